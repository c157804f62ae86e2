/- Tapes: written, synced. -/
import Derived.Test.YtdnhojfkjgggbaaDoorTq5
set_option linter.unusedSimpArgs false
set_option linter.unusedVariables false
set_option linter.constructorNameAsVariable false
set_option maxRecDepth 100000
namespace Go.Ab
open Go Go.Proofs Go.RowKit

structure Tape4 where
  a : List UInt8
  b : List UInt8
  c : List UInt8
  d : List UInt8
def Tape4.n (t : Tape4) : Nat := total t.a t.b t.c t.d
def Tape4.Fit (t : Tape4) : Prop := Fit8 t.a ∧ Fit8 t.b ∧ Fit8 t.c ∧ Fit8 t.d
def tv (t : Tape4) : AV := TapeA t.a t.b t.c t.d
def wrT (t : Tape4) (sp : Bool) (x : List UInt8) : Tape4 :=
  if t.n ≤ 65536 ∧ t.n + x.length ≤ 65536 then if sp = true then ⟨t.a, t.b, t.c, t.d ++ x⟩ else ⟨t.a, t.b ++ x, t.c, t.d⟩ else t
def wrC (t : Tape4) (x : List UInt8) : Int := if t.n ≤ 65536 then if t.n + x.length ≤ 65536 then 0 else 6 else 1
theorem okR_wr {t : Tape4} {v : Value} : OkR (Under 0) (.t [tv t, .c v]) := ⟨⟨okR_Bs, okR_Bs, okR_Bs, okR_Bs, trivial⟩, .c _, trivial⟩
theorem exp_wr {M : Mem} {t : Tape4} {a b c d : List UInt8} {v w : Int} (h1 : t = ⟨a, b, c, d⟩) (h2 : w = v) :
    Exp M (.t [.g [.l 1 (a.map encB), .l 1 (b.map encB), .l 1 (c.map encB), .l 1 (d.map encB)], .c (.int .i64 v)]) (.t [.g [.l 1 (t.a.map encB), .l 1 (t.b.map encB), .l 1 (t.c.map encB), .l 1 (t.d.map encB)], .c (.int .i64 w)]) := by
  subst h1 h2
  exact exp_t ⟨⟨weak_g, arg_tape (M := M) (ids := []) |>.2.2.2⟩, ⟨weak_c, .c _⟩, trivial⟩
theorem arg_ownD {M : Mem} {ids : List Nat} {id n : Nat} {T : TypeId} {xs : List AV} {a b c d : List UInt8} (hi : id ∈ ids) (h : M.get id = some ⟨T, 1, xs⟩) (hx : xs = d.map encB) (hn : n = xs.length) :
    VOkA M (.g [.l 1 (a.map encB), .l 1 (b.map encB), .l 1 (c.map encB), .s id 0 n]) ∧ (∀ i ∈ idsA (.g [.l 1 (a.map encB), .l 1 (b.map encB), .l 1 (c.map encB), .s id 0 n]), i ∈ ids) ∧
      Weak (viewA M (.g [.l 1 (a.map encB), .l 1 (b.map encB), .l 1 (c.map encB), .s id 0 n])) (TapeA a b c d) ∧ Under 0 (TapeA a b c d) := by
  subst hx hn
  refine ⟨⟨trivial, trivial, trivial, ⟨_, h, by simp, pureB _⟩, trivial⟩, fun i h => ?_, ?_, arg_tape (M := M) (ids := []) |>.2.2.2⟩
  · simp [idsA, idsC] at h; exact h ▸ hi
  · simp only [viewA, List.map_cons, List.map_nil, viewC, h, List.drop_zero]; exact weak_g
theorem arg_ownB {M : Mem} {ids : List Nat} {id n : Nat} {T : TypeId} {xs : List AV} {a b c d : List UInt8} (hi : id ∈ ids) (h : M.get id = some ⟨T, 1, xs⟩) (hx : xs = b.map encB) (hn : n = xs.length) :
    VOkA M (.g [.l 1 (a.map encB), .s id 0 n, .l 1 (c.map encB), .l 1 (d.map encB)]) ∧ (∀ i ∈ idsA (.g [.l 1 (a.map encB), .s id 0 n, .l 1 (c.map encB), .l 1 (d.map encB)]), i ∈ ids) ∧
      Weak (viewA M (.g [.l 1 (a.map encB), .s id 0 n, .l 1 (c.map encB), .l 1 (d.map encB)])) (TapeA a b c d) ∧ Under 0 (TapeA a b c d) := by
  subst hx hn
  refine ⟨⟨trivial, ⟨_, h, by simp, pureB _⟩, trivial, trivial, trivial⟩, fun i h => ?_, ?_, arg_tape (M := M) (ids := []) |>.2.2.2⟩
  · simp [idsA, idsC] at h; exact h ▸ hi
  · simp only [viewA, List.map_cons, List.map_nil, viewC, h, List.drop_zero]; exact weak_g
theorem exp_wrD {M : Mem} {t : Tape4} {a b c d : List UInt8} {v w : Int} {id n : Nat} {T : TypeId} {xs : List AV} (h1 : t = ⟨a, b, c, d⟩) (h2 : w = v) (h : M.get id = some ⟨T, 1, xs⟩) (hx : xs = d.map encB) (hn : n = xs.length) :
    Exp M (.t [.g [.l 1 (a.map encB), .l 1 (b.map encB), .l 1 (c.map encB), .s id 0 n], .c (.int .i64 v)]) (.t [.g [.l 1 (t.a.map encB), .l 1 (t.b.map encB), .l 1 (t.c.map encB), .l 1 (t.d.map encB)], .c (.int .i64 w)]) := by
  subst h1 h2 hx hn
  refine ⟨[], [id], ⟨[], [], [id], [], rfl, rfl, ⟨[], [], [], [id], rfl, rfl, expC_pure (.refl _) okR_Bs, [], [], [], [id], rfl, rfl, expC_pure (.refl _) okR_Bs, [], [], [], [id], rfl, rfl, expC_pure (.refl _) okR_Bs, [], [], [id], [], rfl, rfl,
    ⟨rfl, rfl, _, h, by simp, rfl, by simp, pureB _⟩, rfl, rfl⟩, [], [], [], [], rfl, rfl, expC_pure (M := M) (.refl _) (.c _), rfl, rfl⟩, by simp, by simp⟩
theorem exp_wrB {M : Mem} {t : Tape4} {a b c d : List UInt8} {v w : Int} {id n : Nat} {T : TypeId} {xs : List AV} (h1 : t = ⟨a, b, c, d⟩) (h2 : w = v) (h : M.get id = some ⟨T, 1, xs⟩) (hx : xs = b.map encB) (hn : n = xs.length) :
    Exp M (.t [.g [.l 1 (a.map encB), .s id 0 n, .l 1 (c.map encB), .l 1 (d.map encB)], .c (.int .i64 v)]) (.t [.g [.l 1 (t.a.map encB), .l 1 (t.b.map encB), .l 1 (t.c.map encB), .l 1 (t.d.map encB)], .c (.int .i64 w)]) := by
  subst h1 h2 hx hn
  refine ⟨[], [id], ⟨[], [], [id], [], rfl, rfl, ⟨[], [], [], [id], rfl, rfl, expC_pure (.refl _) okR_Bs, [], [], [id], [], rfl, rfl, ⟨rfl, rfl, _, h, by simp, rfl, by simp, pureB _⟩, [], [], [], [], rfl, rfl, expC_pure (.refl _) okR_Bs,
    [], [], [], [], rfl, rfl, expC_pure (.refl _) okR_Bs, rfl, rfl⟩, [], [], [], [], rfl, rfl, expC_pure (M := M) (.refl _) (.c _), rfl, rfl⟩, by simp, by simp⟩
theorem tot_d {a b c d x : List UInt8} : total a b c (d ++ x) = total a b c d + x.length := by unfold total; rw [List.length_append]; omega
theorem tot_b {a b c d x : List UInt8} : total a (b ++ x) c d = total a b c d + x.length := by unfold total; rw [List.length_append]; omega
set_option maxHeartbeats 2000000 in
theorem write_call (t : Tape4) (sp : Bool) (x : List UInt8) (ht : t.Fit) (hx : x.length ≤ 1000000) : PCall Tryd.prog 63 [tv t, .c (.bool sp), Bs x] (.t [tv (wrT t sp x), .c (.int .i64 (wrC t x))]) := by
  obtain ⟨a, b, c, d⟩ := t
  obtain ⟨ha, hb, hc, hd⟩ := ht
  simp only at ha hb hc hd
  have h1 := tmay_call a b c d ha hb hc hd
  refine pcall_body tabOk Tryd.func63 rfl rfl (by rw [Tryd.ntmps63]; simp) ?_
  simp only [Tryd.ntmps63, tv, TapeA, Bs]
  simp only [↓wt, wu, wk0, wk1, wk2, wk3, Nat.reduceAdd, Nat.reduceEqDiff, Nat.reduceLeDiff, Nat.reduceLT, Nat.reduceMul, Int.reduceLE, Int.reduceLT, Int.reduceEq, Int.reduceNe, wk4, laidS, keepS]
  refine icall_drop [] h1 ⟨arg_tape, trivial⟩ (.c _) ?_
  simp only [↓wt, wu, wk0, wk1, wk2, wk3, Nat.reduceAdd, Nat.reduceEqDiff, Nat.reduceLeDiff, Nat.reduceLT, Nat.reduceMul, Int.reduceLE, Int.reduceLT, Int.reduceEq, Int.reduceNe, wk4, laidS, keepS]
  cases f1 : decide (total a b c d ≤ 65536) with
  | false =>
    have g1 := of_decide_eq_false f1
    simp only [↓wt, wu, wk0, wk1, wk2, wk3, Nat.reduceAdd, Nat.reduceEqDiff, Nat.reduceLeDiff, Nat.reduceLT, Nat.reduceMul, Int.reduceLE, Int.reduceLT, Int.reduceEq, Int.reduceNe, wk4, laidS, keepS, Tryd.results63]
    exact exp_wr (by simp [wrT, Tape4.n, g1]) (by simp [wrC, Tape4.n, g1])
  | true =>
    have g1 := of_decide_eq_true f1
    have k1 : b.length ≤ 65536 ∧ d.length ≤ 65536 := by unfold total at g1; omega
    have hb2 : Fit8 (b ++ x) := by unfold Fit8; rw [List.length_append]; omega
    have hd2 : Fit8 (d ++ x) := by unfold Fit8; rw [List.length_append]; omega
    simp only [↓wt, wu, wk0, wk1, wk2, wk3, Nat.reduceAdd, Nat.reduceEqDiff, Nat.reduceLeDiff, Nat.reduceLT, Nat.reduceMul, Int.reduceLE, Int.reduceLT, Int.reduceEq, Int.reduceNe, wk4, laidS, keepS]
    refine area_icall ?_
    cases sp with
    | true =>
      simp only [↓wt, wu, wk0, wk1, wk2, wk3, Nat.reduceAdd, Nat.reduceEqDiff, Nat.reduceLeDiff, Nat.reduceLT, Nat.reduceMul, Int.reduceLE, Int.reduceLT, Int.reduceEq, Int.reduceNe, wk4, laidS, keepS]
      refine icall_drop [3] (concat_call [d, x] (by simp) (by simp; omega)) ⟨arg_own (by simp) rfl rfl pure_Bs2, trivial⟩ okR_Bs ?_
      simp only [↓wt, wu, wk0, wk1, wk2, wk3, Nat.reduceAdd, Nat.reduceEqDiff, Nat.reduceLeDiff, Nat.reduceLT, Nat.reduceMul, Int.reduceLE, Int.reduceLT, Int.reduceEq, Int.reduceNe, wk4, laidS, keepS, Bs, List.flatten_cons, List.flatten_nil]
      refine icall_drop [] (tmay_call a b c (d ++ x) ha hb hc hd2) ⟨arg_tape, trivial⟩ (.c _) ?_
      simp only [↓wt, wu, wk0, wk1, wk2, wk3, Nat.reduceAdd, Nat.reduceEqDiff, Nat.reduceLeDiff, Nat.reduceLT, Nat.reduceMul, Int.reduceLE, Int.reduceLT, Int.reduceEq, Int.reduceNe, wk4, laidS, keepS]
      cases f2 : decide (total a b c (d ++ x) ≤ 65536) with
      | false =>
        have g2 := of_decide_eq_false f2
        rw [tot_d] at g2
        simp only [↓wt, wu, wk0, wk1, wk2, wk3, Nat.reduceAdd, Nat.reduceEqDiff, Nat.reduceLeDiff, Nat.reduceLT, Nat.reduceMul, Int.reduceLE, Int.reduceLT, Int.reduceEq, Int.reduceNe, wk4, laidS, keepS, Tryd.results63]
        exact exp_wr (by simp [wrT, Tape4.n, g1, g2]) (by simp [wrC, Tape4.n, g1, g2])
      | true =>
        have g2 := of_decide_eq_true f2
        rw [tot_d] at g2
        simp only [↓wt, wu, wk0, wk1, wk2, wk3, Nat.reduceAdd, Nat.reduceEqDiff, Nat.reduceLeDiff, Nat.reduceLT, Nat.reduceMul, Int.reduceLE, Int.reduceLT, Int.reduceEq, Int.reduceNe, wk4, laidS, keepS, Tryd.results63]
        exact exp_wr (by simp [wrT, Tape4.n, g1, g2]) (by simp [wrC, Tape4.n, g1, g2])
    | false =>
      simp only [↓wt, wu, wk0, wk1, wk2, wk3, Nat.reduceAdd, Nat.reduceEqDiff, Nat.reduceLeDiff, Nat.reduceLT, Nat.reduceMul, Int.reduceLE, Int.reduceLT, Int.reduceEq, Int.reduceNe, wk4, laidS, keepS]
      refine icall_drop [3] (concat_call [b, x] (by simp) (by simp; omega)) ⟨arg_own (by simp) rfl rfl pure_Bs2, trivial⟩ okR_Bs ?_
      simp only [↓wt, wu, wk0, wk1, wk2, wk3, Nat.reduceAdd, Nat.reduceEqDiff, Nat.reduceLeDiff, Nat.reduceLT, Nat.reduceMul, Int.reduceLE, Int.reduceLT, Int.reduceEq, Int.reduceNe, wk4, laidS, keepS, Bs, List.flatten_cons, List.flatten_nil]
      refine icall_drop [] (tmay_call a (b ++ x) c d ha hb2 hc hd) ⟨arg_tape, trivial⟩ (.c _) ?_
      simp only [↓wt, wu, wk0, wk1, wk2, wk3, Nat.reduceAdd, Nat.reduceEqDiff, Nat.reduceLeDiff, Nat.reduceLT, Nat.reduceMul, Int.reduceLE, Int.reduceLT, Int.reduceEq, Int.reduceNe, wk4, laidS, keepS]
      cases f2 : decide (total a (b ++ x) c d ≤ 65536) with
      | false =>
        have g2 := of_decide_eq_false f2
        rw [tot_b] at g2
        simp only [↓wt, wu, wk0, wk1, wk2, wk3, Nat.reduceAdd, Nat.reduceEqDiff, Nat.reduceLeDiff, Nat.reduceLT, Nat.reduceMul, Int.reduceLE, Int.reduceLT, Int.reduceEq, Int.reduceNe, wk4, laidS, keepS, Tryd.results63]
        exact exp_wr (by simp [wrT, Tape4.n, g1, g2]) (by simp [wrC, Tape4.n, g1, g2])
      | true =>
        have g2 := of_decide_eq_true f2
        rw [tot_b] at g2
        simp only [↓wt, wu, wk0, wk1, wk2, wk3, Nat.reduceAdd, Nat.reduceEqDiff, Nat.reduceLeDiff, Nat.reduceLT, Nat.reduceMul, Int.reduceLE, Int.reduceLT, Int.reduceEq, Int.reduceNe, wk4, laidS, keepS, Tryd.results63]
        exact exp_wr (by simp [wrT, Tape4.n, g1, g2]) (by simp [wrC, Tape4.n, g1, g2])

set_option maxHeartbeats 2000000 in
theorem rwrite_call (t : Tape4) (sp : Bool) (x : List UInt8) (ht : t.Fit) (hx : x.length ≤ 1000000) : PCall Tryd.prog 59 [tv t, .c (.bool sp), Bs x] (.t [tv (wrT t sp x), .c (.int .i64 (wrC t x))]) := by
  obtain ⟨a, b, c, d⟩ := t
  obtain ⟨ha, hb, hc, hd⟩ := ht
  simp only at ha hb hc hd
  have h1 := rmay_call a b c d ha hb hc hd
  refine pcall_body tabOk Tryd.func59 rfl rfl (by rw [Tryd.ntmps59]; simp) ?_
  simp only [Tryd.ntmps59, tv, TapeA, Bs]
  simp only [↓wt, wu, wk0, wk1, wk2, wk3, Nat.reduceAdd, Nat.reduceEqDiff, Nat.reduceLeDiff, Nat.reduceLT, Nat.reduceMul, Int.reduceLE, Int.reduceLT, Int.reduceEq, Int.reduceNe, wk4, laidS, keepS]
  refine icall_drop [] h1 ⟨arg_tape, trivial⟩ (.c _) ?_
  simp only [↓wt, wu, wk0, wk1, wk2, wk3, Nat.reduceAdd, Nat.reduceEqDiff, Nat.reduceLeDiff, Nat.reduceLT, Nat.reduceMul, Int.reduceLE, Int.reduceLT, Int.reduceEq, Int.reduceNe, wk4, laidS, keepS]
  cases f1 : decide (total a b c d ≤ 65536) with
  | false =>
    have g1 := of_decide_eq_false f1
    simp only [↓wt, wu, wk0, wk1, wk2, wk3, Nat.reduceAdd, Nat.reduceEqDiff, Nat.reduceLeDiff, Nat.reduceLT, Nat.reduceMul, Int.reduceLE, Int.reduceLT, Int.reduceEq, Int.reduceNe, wk4, laidS, keepS, Tryd.results59]
    exact exp_wr (by simp [wrT, Tape4.n, g1]) (by simp [wrC, Tape4.n, g1])
  | true =>
    have g1 := of_decide_eq_true f1
    have k1 : b.length ≤ 65536 ∧ d.length ≤ 65536 := by unfold total at g1; omega
    have hb2 : Fit8 (b ++ x) := by unfold Fit8; rw [List.length_append]; omega
    have hd2 : Fit8 (d ++ x) := by unfold Fit8; rw [List.length_append]; omega
    simp only [↓wt, wu, wk0, wk1, wk2, wk3, Nat.reduceAdd, Nat.reduceEqDiff, Nat.reduceLeDiff, Nat.reduceLT, Nat.reduceMul, Int.reduceLE, Int.reduceLT, Int.reduceEq, Int.reduceNe, wk4, laidS, keepS]
    cases sp with
    | true =>
      simp only [↓wt, wu, wk0, wk1, wk2, wk3, Nat.reduceAdd, Nat.reduceEqDiff, Nat.reduceLeDiff, Nat.reduceLT, Nat.reduceMul, Int.reduceLE, Int.reduceLT, Int.reduceEq, Int.reduceNe, wk4, laidS, keepS]
      repeat (refine And.intro (by omega) ?_)
      refine icall_keep [3] (rmay_call a b c (d ++ x) ha hb hc hd2) ⟨arg_ownD (by simp) rfl List.map_append.symm (by simp), trivial⟩ (.c _) ?_
      simp only [↓wt, wu, wk0, wk1, wk2, wk3, Nat.reduceAdd, Nat.reduceEqDiff, Nat.reduceLeDiff, Nat.reduceLT, Nat.reduceMul, Int.reduceLE, Int.reduceLT, Int.reduceEq, Int.reduceNe, wk4, laidS, keepS]
      cases f2 : decide (total a b c (d ++ x) ≤ 65536) with
      | false =>
        have g2 := of_decide_eq_false f2
        rw [tot_d] at g2
        simp only [↓wt, wu, wk0, wk1, wk2, wk3, Nat.reduceAdd, Nat.reduceEqDiff, Nat.reduceLeDiff, Nat.reduceLT, Nat.reduceMul, Int.reduceLE, Int.reduceLT, Int.reduceEq, Int.reduceNe, wk4, laidS, keepS, Tryd.results59]
        exact exp_wr (by simp [wrT, Tape4.n, g1, g2]) (by simp [wrC, Tape4.n, g1, g2])
      | true =>
        have g2 := of_decide_eq_true f2
        rw [tot_d] at g2
        simp only [↓wt, wu, wk0, wk1, wk2, wk3, Nat.reduceAdd, Nat.reduceEqDiff, Nat.reduceLeDiff, Nat.reduceLT, Nat.reduceMul, Int.reduceLE, Int.reduceLT, Int.reduceEq, Int.reduceNe, wk4, laidS, keepS, Tryd.results59]
        exact exp_wrD (by simp [wrT, Tape4.n, g1, g2]) (by simp [wrC, Tape4.n, g1, g2]) rfl List.map_append.symm (by simp)
    | false =>
      simp only [↓wt, wu, wk0, wk1, wk2, wk3, Nat.reduceAdd, Nat.reduceEqDiff, Nat.reduceLeDiff, Nat.reduceLT, Nat.reduceMul, Int.reduceLE, Int.reduceLT, Int.reduceEq, Int.reduceNe, wk4, laidS, keepS]
      repeat (refine And.intro (by omega) ?_)
      refine icall_keep [3] (rmay_call a (b ++ x) c d ha hb2 hc hd) ⟨arg_ownB (by simp) rfl List.map_append.symm (by simp), trivial⟩ (.c _) ?_
      simp only [↓wt, wu, wk0, wk1, wk2, wk3, Nat.reduceAdd, Nat.reduceEqDiff, Nat.reduceLeDiff, Nat.reduceLT, Nat.reduceMul, Int.reduceLE, Int.reduceLT, Int.reduceEq, Int.reduceNe, wk4, laidS, keepS]
      cases f2 : decide (total a (b ++ x) c d ≤ 65536) with
      | false =>
        have g2 := of_decide_eq_false f2
        rw [tot_b] at g2
        simp only [↓wt, wu, wk0, wk1, wk2, wk3, Nat.reduceAdd, Nat.reduceEqDiff, Nat.reduceLeDiff, Nat.reduceLT, Nat.reduceMul, Int.reduceLE, Int.reduceLT, Int.reduceEq, Int.reduceNe, wk4, laidS, keepS, Tryd.results59]
        exact exp_wr (by simp [wrT, Tape4.n, g1, g2]) (by simp [wrC, Tape4.n, g1, g2])
      | true =>
        have g2 := of_decide_eq_true f2
        rw [tot_b] at g2
        simp only [↓wt, wu, wk0, wk1, wk2, wk3, Nat.reduceAdd, Nat.reduceEqDiff, Nat.reduceLeDiff, Nat.reduceLT, Nat.reduceMul, Int.reduceLE, Int.reduceLT, Int.reduceEq, Int.reduceNe, wk4, laidS, keepS, Tryd.results59]
        exact exp_wrB (by simp [wrT, Tape4.n, g1, g2]) (by simp [wrC, Tape4.n, g1, g2]) rfl List.map_append.symm (by simp)

end Go.Ab
