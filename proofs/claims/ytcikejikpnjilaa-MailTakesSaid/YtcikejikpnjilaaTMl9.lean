/- Mail: the reference's numbers, and what it puts. Mail: the reference's numbers with which bytes begin. -/
import Derived.Test.YtcikejikpnjilaaTMl8
import Derived.Test.YtcikejikpnjilaaTNb5
set_option linter.unusedSimpArgs false
set_option linter.unusedVariables false
set_option linter.constructorNameAsVariable false
set_option maxRecDepth 100000
namespace Go.Ab
open Go Go.Proofs Go.RowKit

set_option maxHeartbeats 2000000 in
theorem mrnums_call (b : List UInt8) (ns : List Int) (hl : b.length + 10 * ns.length ≤ 1000000000) : PCall Try.prog 25 [Bs b, .l 1 (ns.map encI)] (Bs (b ++ encN ns)) := by
  refine pcall_body tabOk Try.func25 rfl rfl (by rw [Try.ntmps25]; simp) ?_
  simp only [Try.ntmps25, Bs]
  simp only [↓wt, wu, wk0, wk1, wk2, wk3, Nat.reduceAdd, Nat.reduceEqDiff, Nat.reduceLeDiff, Nat.reduceLT, Nat.reduceMul, Int.reduceLE, Int.reduceLT, Int.reduceEq, Int.reduceNe, wk4, laidS, keepS]
  refine loop_ruleC tabOk [1] (fun k : Nat => [(0, Bs (b ++ encN (ns.take k))), (5, .c (.int .i64 k))]) (fun k => k ≤ ns.length) (fun k => ns.length - k) 0 (by omega) ?_ ?_
  · simp only [↓wt, wu, wk0, wk1, wk2, wk3, wkf, Nat.reduceAdd, Nat.reduceEqDiff, Nat.reduceLeDiff, Nat.reduceLT, Nat.reduceMul, Int.reduceLE, Int.reduceLT, Int.reduceEq, Int.reduceNe, wk4, laidS, keepS, Bs, encN, underL_I, List.take_zero, List.append_nil]
    try trivial
  · intro k h1
    have e3 := wi_succ (k := k) (by omega)
    have h2 := encNI_len (l := ns) (k := k)
    simp only [↓wt, wu, wk0, wk1, wk2, wk3, Nat.reduceAdd, Nat.reduceEqDiff, Nat.reduceLeDiff, Nat.reduceLT, Nat.reduceMul, Int.reduceLE, Int.reduceLT, Int.reduceEq, Int.reduceNe, wk4, laidS, keepS, Bs]
    repeat' (first | (refine r_casesD (fun hp hb => ?_) (fun hp hb => ?_) <;> simp only [↓wt, wu, wk0, wk1, wk2, wk3, Nat.reduceAdd, Nat.reduceEqDiff, Nat.reduceLeDiff, Nat.reduceLT, Nat.reduceMul, Int.reduceLE, Int.reduceLT, Int.reduceEq, Int.reduceNe, wk4, laidS, keepS, hb]) | (refine r_casesN (fun hp hb => ?_) (fun hp hb => ?_) <;> simp only [↓wt, wu, wk0, wk1, wk2, wk3, Nat.reduceAdd, Nat.reduceEqDiff, Nat.reduceLeDiff, Nat.reduceLT, Nat.reduceMul, Int.reduceLE, Int.reduceLT, Int.reduceEq, Int.reduceNe, wk4, laidS, keepS, hb]) | (refine r_casesM (fun hp hb => ?_) (fun hp hb => ?_) <;> simp only [↓wt, wu, wk0, wk1, wk2, wk3, Nat.reduceAdd, Nat.reduceEqDiff, Nat.reduceLeDiff, Nat.reduceLT, Nat.reduceMul, Int.reduceLE, Int.reduceLT, Int.reduceEq, Int.reduceNe, wk4, laidS, keepS, hb]) | (refine r_casesB (fun hp hb => ?_) (fun hp hb => ?_) <;> simp only [↓wt, wu, wk0, wk1, wk2, wk3, Nat.reduceAdd, Nat.reduceEqDiff, Nat.reduceLeDiff, Nat.reduceLT, Nat.reduceMul, Int.reduceLE, Int.reduceLT, Int.reduceEq, Int.reduceNe, wk4, laidS, keepS, hb]) | (refine r_gcasesD (fun hp hb => ?_) (fun hp hb => ?_) <;> simp only [↓wt, wu, wk0, wk1, wk2, wk3, Nat.reduceAdd, Nat.reduceEqDiff, Nat.reduceLeDiff, Nat.reduceLT, Nat.reduceMul, Int.reduceLE, Int.reduceLT, Int.reduceEq, Int.reduceNe, wk4, laidS, keepS, hb]) | (refine r_gcasesN (fun hp hb => ?_) (fun hp hb => ?_) <;> simp only [↓wt, wu, wk0, wk1, wk2, wk3, Nat.reduceAdd, Nat.reduceEqDiff, Nat.reduceLeDiff, Nat.reduceLT, Nat.reduceMul, Int.reduceLE, Int.reduceLT, Int.reduceEq, Int.reduceNe, wk4, laidS, keepS, hb]) | (refine r_gcasesM (fun hp hb => ?_) (fun hp hb => ?_) <;> simp only [↓wt, wu, wk0, wk1, wk2, wk3, Nat.reduceAdd, Nat.reduceEqDiff, Nat.reduceLeDiff, Nat.reduceLT, Nat.reduceMul, Int.reduceLE, Int.reduceLT, Int.reduceEq, Int.reduceNe, wk4, laidS, keepS, hb]) | (refine r_gcasesB (fun hp hb => ?_) (fun hp hb => ?_) <;> simp only [↓wt, wu, wk0, wk1, wk2, wk3, Nat.reduceAdd, Nat.reduceEqDiff, Nat.reduceLeDiff, Nat.reduceLT, Nat.reduceMul, Int.reduceLE, Int.reduceLT, Int.reduceEq, Int.reduceNe, wk4, laidS, keepS, hb]) | ((with_reducible refine And.intro ?_ ?_); omega) | fail)
    · have hkl : k < ns.length := by omega
      simp only [↓wt, wu, wk0, wk1, wk2, wk3, Nat.reduceAdd, Nat.reduceEqDiff, Nat.reduceLeDiff, Nat.reduceLT, Nat.reduceMul, Int.reduceLE, Int.reduceLT, Int.reduceEq, Int.reduceNe, wk4, laidS, keepS, elem_I, uNat_eq]
      repeat (refine And.intro (by omega) ?_)
      refine icall_drop [] (nrput_call (b ++ encN (ns.take k)) (uNat (ns.getD k 0)) (by rw [List.length_append]; omega) (uNat_lt _)).frz ⟨arg_l (pureB _), arg_c, trivial⟩ under_B ?_
      simp only [↓wt, wu, wk0, wk1, wk2, wk3, Nat.reduceAdd, Nat.reduceEqDiff, Nat.reduceLeDiff, Nat.reduceLT, Nat.reduceMul, Int.reduceLE, Int.reduceLT, Int.reduceEq, Int.reduceNe, wk4, laidS, keepS, e3, Bs, Cell]
      refine ⟨k + 1, by omega, by omega, ?_⟩
      simp only [↓wt, wu, wk0, wk1, wk2, wk3, wkf, Nat.reduceAdd, Nat.reduceEqDiff, Nat.reduceLeDiff, Nat.reduceLT, Nat.reduceMul, Int.reduceLE, Int.reduceLT, Int.reduceEq, Int.reduceNe, wk4, laidS, keepS, Bs, e3, underL_I, takeI_snoc, hkl, List.append_assoc]
      try trivial
    · have hk2 : k = ns.length := by omega
      subst hk2
      simp only [↓wt, wu, wk0, wk1, wk2, wk3, Nat.reduceAdd, Nat.reduceEqDiff, Nat.reduceLeDiff, Nat.reduceLT, Nat.reduceMul, Int.reduceLE, Int.reduceLT, Int.reduceEq, Int.reduceNe, wk4, laidS, keepS, Bs, List.take_length, Try.results25]
      exact exp_self (.l _ _ (pureB _))
set_option maxHeartbeats 8000000 in
theorem mrput_call (m : MailD) (hn : (numsB m.r).length ≤ 10000000) (hr : m.r.length < 1000000000) (he : m.e.length ≤ 1000000) : PCall Try.prog 12 [MailV m] (Bs (encM m)) := by
  refine pcall_body tabOk Try.func12 rfl rfl (by rw [Try.ntmps12]; simp) ?_
  simp only [Try.ntmps12, MailV]
  have n1 := encN_len [m.f, m.o, m.ck]
  have n2 := encN_len (numsB m.r)
  have n3 := encK_len (m := m) (k := 0)
  simp only [List.length_cons, List.length_nil] at n1
  obtain ⟨b1, h1⟩ : ∃ b, b = encN [m.f, m.o, m.ck] := ⟨_, rfl⟩
  have l1 : b1.length ≤ 30 := by rw [h1]; omega
  obtain ⟨b2, h2⟩ : ∃ b, b = b1 ++ encN (numsB m.r) := ⟨_, rfl⟩
  have l2 : b2.length ≤ 30 + 10 * (numsB m.r).length := by rw [h2, List.length_append]; omega
  have h3 : b2 ++ encN [m.t, m.w, m.a, m.k, m.y, m.p] = encK m 0 := by rw [encK_0, h2, h1]
  have m2 := rpput_call b1 m.r (by omega) hr
  rw [← h2] at m2
  have m1 := mrnums_call [] [m.f, m.o, m.ck] (by simp)
  rw [List.nil_append, ← h1] at m1
  have m3 := mrnums_call b2 [m.t, m.w, m.a, m.k, m.y, m.p] (by simp; omega)
  rw [h3] at m3
  simp only [↓wt, wu, wk0, wk1, wk2, wk3, Nat.reduceAdd, Nat.reduceEqDiff, Nat.reduceLeDiff, Nat.reduceLT, Nat.reduceMul, Int.reduceLE, Int.reduceLT, Int.reduceEq, Int.reduceNe, wk4, laidS, keepS]
  refine icall_drop [1] m1 ⟨arg_nil, arg_own (by simp) rfl rfl (pureI [m.f, m.o, m.ck]), trivial⟩ okR_Bs ?_
  simp only [↓wt, wu, wk0, wk1, wk2, wk3, Nat.reduceAdd, Nat.reduceEqDiff, Nat.reduceLeDiff, Nat.reduceLT, Nat.reduceMul, Int.reduceLE, Int.reduceLT, Int.reduceEq, Int.reduceNe, wk4, laidS, keepS, Bs, Cell]
  refine icall_drop [] m2 ⟨arg_l (pureB _), arg_books, trivial⟩ okR_Bs ?_
  simp only [↓wt, wu, wk0, wk1, wk2, wk3, Nat.reduceAdd, Nat.reduceEqDiff, Nat.reduceLeDiff, Nat.reduceLT, Nat.reduceMul, Int.reduceLE, Int.reduceLT, Int.reduceEq, Int.reduceNe, wk4, laidS, keepS, Bs, Cell]
  refine icall_drop [2] m3 ⟨arg_l (pureB _), arg_own (by simp) rfl rfl (pureI [m.t, m.w, m.a, m.k, m.y, m.p]), trivial⟩ okR_Bs ?_
  simp only [↓wt, wu, wk0, wk1, wk2, wk3, Nat.reduceAdd, Nat.reduceEqDiff, Nat.reduceLeDiff, Nat.reduceLT, Nat.reduceMul, Int.reduceLE, Int.reduceLT, Int.reduceEq, Int.reduceNe, wk4, laidS, keepS, Bs, Cell]
  refine loop_ruleG tabOk [1] (fun k : Nat => [(3, Bs (encK m k)), (4, .c (.int .i64 k))]) (fun k => ⟨[(0, ⟨35, 11, [MailV m]⟩)], 3⟩) (fun k => k ≤ m.e.length) (fun k => m.e.length - k) 0 (by omega) (fun _ => Nat.le_refl _) ?_ ?_
  · simp only [↓wt, wu, wk0, wk1, wk2, wk3, wkf, Nat.reduceAdd, Nat.reduceEqDiff, Nat.reduceLeDiff, Nat.reduceLT, Nat.reduceMul, Int.reduceLE, Int.reduceLT, Int.reduceEq, Int.reduceNe, wk4, laidS, keepS, Bs, underL_K, underL_R, MailV]
    try trivial
  · intro k hk
    have e3 := wi_succ (k := k) (by omega)
    have n4 := encK_len (m := m) (k := k)
    simp only [↓wt, wu, wk0, wk1, wk2, wk3, Nat.reduceAdd, Nat.reduceEqDiff, Nat.reduceLeDiff, Nat.reduceLT, Nat.reduceMul, Int.reduceLE, Int.reduceLT, Int.reduceEq, Int.reduceNe, wk4, laidS, keepS, Bs, MailV]
    repeat' (first | (refine r_casesD (fun hp hb => ?_) (fun hp hb => ?_) <;> simp only [↓wt, wu, wk0, wk1, wk2, wk3, Nat.reduceAdd, Nat.reduceEqDiff, Nat.reduceLeDiff, Nat.reduceLT, Nat.reduceMul, Int.reduceLE, Int.reduceLT, Int.reduceEq, Int.reduceNe, wk4, laidS, keepS, hb]) | (refine r_casesN (fun hp hb => ?_) (fun hp hb => ?_) <;> simp only [↓wt, wu, wk0, wk1, wk2, wk3, Nat.reduceAdd, Nat.reduceEqDiff, Nat.reduceLeDiff, Nat.reduceLT, Nat.reduceMul, Int.reduceLE, Int.reduceLT, Int.reduceEq, Int.reduceNe, wk4, laidS, keepS, hb]) | (refine r_casesM (fun hp hb => ?_) (fun hp hb => ?_) <;> simp only [↓wt, wu, wk0, wk1, wk2, wk3, Nat.reduceAdd, Nat.reduceEqDiff, Nat.reduceLeDiff, Nat.reduceLT, Nat.reduceMul, Int.reduceLE, Int.reduceLT, Int.reduceEq, Int.reduceNe, wk4, laidS, keepS, hb]) | (refine r_casesB (fun hp hb => ?_) (fun hp hb => ?_) <;> simp only [↓wt, wu, wk0, wk1, wk2, wk3, Nat.reduceAdd, Nat.reduceEqDiff, Nat.reduceLeDiff, Nat.reduceLT, Nat.reduceMul, Int.reduceLE, Int.reduceLT, Int.reduceEq, Int.reduceNe, wk4, laidS, keepS, hb]) | (refine r_gcasesD (fun hp hb => ?_) (fun hp hb => ?_) <;> simp only [↓wt, wu, wk0, wk1, wk2, wk3, Nat.reduceAdd, Nat.reduceEqDiff, Nat.reduceLeDiff, Nat.reduceLT, Nat.reduceMul, Int.reduceLE, Int.reduceLT, Int.reduceEq, Int.reduceNe, wk4, laidS, keepS, hb]) | (refine r_gcasesN (fun hp hb => ?_) (fun hp hb => ?_) <;> simp only [↓wt, wu, wk0, wk1, wk2, wk3, Nat.reduceAdd, Nat.reduceEqDiff, Nat.reduceLeDiff, Nat.reduceLT, Nat.reduceMul, Int.reduceLE, Int.reduceLT, Int.reduceEq, Int.reduceNe, wk4, laidS, keepS, hb]) | (refine r_gcasesM (fun hp hb => ?_) (fun hp hb => ?_) <;> simp only [↓wt, wu, wk0, wk1, wk2, wk3, Nat.reduceAdd, Nat.reduceEqDiff, Nat.reduceLeDiff, Nat.reduceLT, Nat.reduceMul, Int.reduceLE, Int.reduceLT, Int.reduceEq, Int.reduceNe, wk4, laidS, keepS, hb]) | (refine r_gcasesB (fun hp hb => ?_) (fun hp hb => ?_) <;> simp only [↓wt, wu, wk0, wk1, wk2, wk3, Nat.reduceAdd, Nat.reduceEqDiff, Nat.reduceLeDiff, Nat.reduceLT, Nat.reduceMul, Int.reduceLE, Int.reduceLT, Int.reduceEq, Int.reduceNe, wk4, laidS, keepS, hb]) | ((with_reducible refine And.intro ?_ ?_); omega) | fail)
    · have hkl : k < m.e.length := by omega
      have m4 := mrnums_call (encK m k) [(lookAt m.e k).1, (lookAt m.e k).2] (by simp; omega)
      rw [← encK_succ hkl] at m4
      refine draw_rule tabOk mixed [0, 0, 2, 0, 2, 0, 2, 0, 2, 0, 2, 0, 2, 1, 1, 0] [[], [], [1], [], [1, 2, 3], [1, 2, 3, 4], [1, 2, 3, 4, 5], [], [7], [], [7, 8, 9], [7, 8, 9, 10], [7, 8, 9, 10, 11], [1, 2, 3, 4, 5, 6, 7, 8, 9, 10, 11, 12], [0, 1, 2, 3, 4, 5, 6, 7, 8, 9, 10, 11, 12, 13], [0, 1, 2, 3, 4, 5, 6, 7, 8, 9, 10, 11, 12, 13, 14]] (by kernel_rfl) ?_
      simp only [↓wt, wu, wk0, wk1, wk2, wk3, Nat.reduceAdd, Nat.reduceEqDiff, Nat.reduceLeDiff, Nat.reduceLT, Nat.reduceMul, Int.reduceLE, Int.reduceLT, Int.reduceEq, Int.reduceNe, wk4, laidS, keepS, elem_K, LookV_eq]
      repeat (refine And.intro (by omega) ?_)
      refine d_heavyX (by simp only [↓wt, wu, wk0, wk1, wk2, wk3, Nat.reduceAdd, Nat.reduceEqDiff, Nat.reduceLeDiff, Nat.reduceLT, Nat.reduceMul, Int.reduceLE, Int.reduceLT, Int.reduceEq, Int.reduceNe, wk4, laidS, keepS]; (repeat (first | refine And.intro (by omega) ?_ | refine And.intro (pureB _) ?_ | refine And.intro (pureI _) ?_ | refine And.intro ⟨pureB _, pureB _⟩ ?_ | refine And.intro ⟨pureB _, pureI _⟩ ?_ | refine And.intro ⟨pureI _, pureB _⟩ ?_ | refine And.intro ⟨pureI _, pureI _⟩ ?_)); exact ⟨rfl, rfl⟩) ?_
      simp only [↓wt, wu, wk0, wk1, wk2, wk3, Nat.reduceAdd, Nat.reduceEqDiff, Nat.reduceLeDiff, Nat.reduceLT, Nat.reduceMul, Int.reduceLE, Int.reduceLT, Int.reduceEq, Int.reduceNe, wk4, laidS, keepS]
      refine d_heavyC (icall_drop [3] m4 ⟨arg_l (pureB _), arg_own (by simp) rfl rfl (pureI [(lookAt m.e k).1, (lookAt m.e k).2]), trivial⟩ okR_Bs ⟨rfl, rfl⟩) ?_
      simp only [↓wt, wu, wk0, wk1, wk2, wk3, Nat.reduceAdd, Nat.reduceEqDiff, Nat.reduceLeDiff, Nat.reduceLT, Nat.reduceMul, Int.reduceLE, Int.reduceLT, Int.reduceEq, Int.reduceNe, wk4, laidS, keepS, Bs, e3]
      refine ⟨k + 1, by omega, by omega, ?_⟩
      simp only [↓wt, wu, wk0, wk1, wk2, wk3, wkf, Nat.reduceAdd, Nat.reduceEqDiff, Nat.reduceLeDiff, Nat.reduceLT, Nat.reduceMul, Int.reduceLE, Int.reduceLT, Int.reduceEq, Int.reduceNe, wk4, laidS, keepS, Bs, underL_K, underL_R, e3]
      try trivial
    · have hk2 : k = m.e.length := by omega
      subst hk2
      rw [encK_all]
      simp only [↓wt, wu, wk0, wk1, wk2, wk3, Nat.reduceAdd, Nat.reduceEqDiff, Nat.reduceLeDiff, Nat.reduceLT, Nat.reduceMul, Int.reduceLE, Int.reduceLT, Int.reduceEq, Int.reduceNe, wk4, laidS, keepS, Bs, Try.results12]
      exact exp_self (.l _ _ (pureB _))
end Go.Ab

set_option linter.unusedSimpArgs false
set_option linter.unusedVariables false
set_option linter.constructorNameAsVariable false
set_option maxRecDepth 100000
namespace Go.Ab
open Go Go.Proofs Go.RowKit

noncomputable def someT (n : Nat) (b : List UInt8) : List Int × List UInt8 × Bool := if (manyL (num B62) n b).1.length = n then ((manyL (num B62) n b).1, (manyL (num B62) n b).2, true) else ([], [], false)
def SomeV (p : List Int × List UInt8 × Bool) : AV := .t [.l 1 (p.1.map encI), Bs p.2.1, .c (.bool p.2.2)]
theorem okR_some {p : List Int × List UInt8 × Bool} : OkR (Under 0) (SomeV p) := ⟨.l _ _ (pureI _), okR_Bs, .c _, trivial⟩
theorem exp_someN {M : Mem} {p : List Int × List UInt8 × Bool} (h : p = ([], [], false)) : Exp M (.t [.c (.slice none 0 0), .c (.slice none 0 0), .c (.bool false)]) (SomeV p) := by
  subst h; exact exp_take0
theorem exp_someY {M : Mem} {T : TypeId} {id : Nat} {xs : List Int} {r : List UInt8} {p : List Int × List UInt8 × Bool} {n : Nat} (h : p = (xs, r, true)) (hn : n = xs.length) (hm : M.get id = some ⟨T, 1, xs.map encI⟩) :
    Exp M (.t [.s id 0 n, .l 1 (r.map encB), .c (.bool true)]) (SomeV p) := by
  subst h; exact exp_tA (xT_cons (xA_frz hm (by rw [hn, List.length_map, Nat.zero_add]) rfl (pureI _)) (xT_cons xA_Bs (xT_cons xA_c xT_nil)))
set_option maxHeartbeats 4000000 in
theorem mrsome_call (b : List UInt8) (n : Nat) (hl : b.length ≤ 1000000000) (hn : n ≤ 1000) : PCall Try.prog 19 [Bs b, .c (.int .i64 n)] (SomeV (someT n b)) := by
  refine pcall_body tabOk Try.func19 rfl rfl (by rw [Try.ntmps19]; simp) ?_
  simp only [Try.ntmps19, Bs]
  simp only [↓wt, wu, wk0, wk1, wk2, wk3, Nat.reduceAdd, Nat.reduceEqDiff, Nat.reduceLeDiff, Nat.reduceLT, Nat.reduceMul, Int.reduceLE, Int.reduceLT, Int.reduceEq, Int.reduceNe, wk4, laidS, keepS]
  refine adopt_rule 7 2 1 rfl ?_
  simp only [↓wt, wu, wk0, wk1, wk2, wk3, Nat.reduceAdd, Nat.reduceEqDiff, Nat.reduceLeDiff, Nat.reduceLT, Nat.reduceMul, Int.reduceLE, Int.reduceLT, Int.reduceEq, Int.reduceNe, wk4, laidS, keepS]
  refine loop_ruleM tabOk [1] (fun x : List Int × List UInt8 => [(0, Bs x.2), (7, .s 0 0 x.1.length), (8, .c (.int .i64 x.1.length))]) (fun x => ⟨[(0, ⟨2, 1, x.1.map encI⟩)], 1⟩) (fun x => Tk (num B62) b x.1 x.2 ∧ x.1.length ≤ n) (fun x => n - x.1.length) ([], b) ⟨.nil, by simp⟩ (fun _ => rfl) ?_ ?_
  · simp only [↓wt, wu, wk0, wk1, wk2, wk3, wkf, Nat.reduceAdd, Nat.reduceEqDiff, Nat.reduceLeDiff, Nat.reduceLT, Nat.reduceMul, Int.reduceLE, Int.reduceLT, Int.reduceEq, Int.reduceNe, wk4, laidS, keepS, Bs]
    try trivial
  · rintro ⟨xs, r⟩ ⟨h1, h2⟩
    dsimp only at h1 h2
    have hr := h1.len num_len
    have e3 := wi_succ (k := xs.length) (by omega)
    simp only [↓wt, wu, wk0, wk1, wk2, wk3, Nat.reduceAdd, Nat.reduceEqDiff, Nat.reduceLeDiff, Nat.reduceLT, Nat.reduceMul, Int.reduceLE, Int.reduceLT, Int.reduceEq, Int.reduceNe, wk4, laidS, keepS, Bs]
    repeat' (first | (refine r_casesD (fun hp hb => ?_) (fun hp hb => ?_) <;> simp only [↓wt, wu, wk0, wk1, wk2, wk3, Nat.reduceAdd, Nat.reduceEqDiff, Nat.reduceLeDiff, Nat.reduceLT, Nat.reduceMul, Int.reduceLE, Int.reduceLT, Int.reduceEq, Int.reduceNe, wk4, laidS, keepS, Bs, hb]) | (refine r_casesN (fun hp hb => ?_) (fun hp hb => ?_) <;> simp only [↓wt, wu, wk0, wk1, wk2, wk3, Nat.reduceAdd, Nat.reduceEqDiff, Nat.reduceLeDiff, Nat.reduceLT, Nat.reduceMul, Int.reduceLE, Int.reduceLT, Int.reduceEq, Int.reduceNe, wk4, laidS, keepS, Bs, hb]) | (refine r_casesM (fun hp hb => ?_) (fun hp hb => ?_) <;> simp only [↓wt, wu, wk0, wk1, wk2, wk3, Nat.reduceAdd, Nat.reduceEqDiff, Nat.reduceLeDiff, Nat.reduceLT, Nat.reduceMul, Int.reduceLE, Int.reduceLT, Int.reduceEq, Int.reduceNe, wk4, laidS, keepS, Bs, hb]) | (refine r_casesB (fun hp hb => ?_) (fun hp hb => ?_) <;> simp only [↓wt, wu, wk0, wk1, wk2, wk3, Nat.reduceAdd, Nat.reduceEqDiff, Nat.reduceLeDiff, Nat.reduceLT, Nat.reduceMul, Int.reduceLE, Int.reduceLT, Int.reduceEq, Int.reduceNe, wk4, laidS, keepS, Bs, hb]) | (refine r_gcasesD (fun hp hb => ?_) (fun hp hb => ?_) <;> simp only [↓wt, wu, wk0, wk1, wk2, wk3, Nat.reduceAdd, Nat.reduceEqDiff, Nat.reduceLeDiff, Nat.reduceLT, Nat.reduceMul, Int.reduceLE, Int.reduceLT, Int.reduceEq, Int.reduceNe, wk4, laidS, keepS, Bs, hb]) | (refine r_gcasesN (fun hp hb => ?_) (fun hp hb => ?_) <;> simp only [↓wt, wu, wk0, wk1, wk2, wk3, Nat.reduceAdd, Nat.reduceEqDiff, Nat.reduceLeDiff, Nat.reduceLT, Nat.reduceMul, Int.reduceLE, Int.reduceLT, Int.reduceEq, Int.reduceNe, wk4, laidS, keepS, Bs, hb]) | (refine r_gcasesM (fun hp hb => ?_) (fun hp hb => ?_) <;> simp only [↓wt, wu, wk0, wk1, wk2, wk3, Nat.reduceAdd, Nat.reduceEqDiff, Nat.reduceLeDiff, Nat.reduceLT, Nat.reduceMul, Int.reduceLE, Int.reduceLT, Int.reduceEq, Int.reduceNe, wk4, laidS, keepS, Bs, hb]) | (refine r_gcasesB (fun hp hb => ?_) (fun hp hb => ?_) <;> simp only [↓wt, wu, wk0, wk1, wk2, wk3, Nat.reduceAdd, Nat.reduceEqDiff, Nat.reduceLeDiff, Nat.reduceLT, Nat.reduceMul, Int.reduceLE, Int.reduceLT, Int.reduceEq, Int.reduceNe, wk4, laidS, keepS, Bs, hb]) | ((with_reducible refine And.intro ?_ ?_); omega) | fail)
    · have h3 : xs.length < n := by omega
      refine icall_drop [] (nrtake_call r (by omega) (tk_is r)) ⟨arg_l (pureB _), trivial⟩ okR_take ?_
      have e : decide ((((tk r).1 : Nat) : Int) > 4611686018427387903) = !decide ((tk r).1 < 4611686018427387904) := by rw [← decide_not]; exact decide_eq_decide.2 (by omega)
      have hm := h1.many (n - xs.length)
      rw [show xs.length + (n - xs.length) = n by omega, show n - xs.length = (n - xs.length - 1) + 1 by omega] at hm
      have stop : (num B62 r).2.2 = false → someT n b = ([], [], false) := fun ho => by
        simp only [manyL, ho, Bool.false_eq_true, if_false, List.append_nil] at hm
        rw [someT, hm, if_neg (by show ¬ xs.length = n; omega)]
      simp only [↓wt, wu, wk0, wk1, wk2, wk3, Nat.reduceAdd, Nat.reduceEqDiff, Nat.reduceLeDiff, Nat.reduceLT, Nat.reduceMul, Int.reduceLE, Int.reduceLT, Int.reduceEq, Int.reduceNe, wk4, laidS, keepS, Bs]
      cases ho : (tk r).2.2
      · have hno : (num B62 r).2.2 = false := by simp [num, ho]
        simp only [↓wt, wu, wk0, wk1, wk2, wk3, Nat.reduceAdd, Nat.reduceEqDiff, Nat.reduceLeDiff, Nat.reduceLT, Nat.reduceMul, Int.reduceLE, Int.reduceLT, Int.reduceEq, Int.reduceNe, wk4, laidS, keepS, ho, Bs, Try.results19]
        exact exp_someN (stop hno)
      · by_cases hv : (tk r).1 < 4611686018427387904
        · have hyes : (num B62 r).2.2 = true := by simp [num, ho, hv]
          have e0 : IntKind.i64.wrap ((tk r).1 : Int) = (num B62 r).1 := rfl
          simp only [↓wt, wu, wk0, wk1, wk2, wk3, Nat.reduceAdd, Nat.reduceEqDiff, Nat.reduceLeDiff, Nat.reduceLT, Nat.reduceMul, Int.reduceLE, Int.reduceLT, Int.reduceEq, Int.reduceNe, wk4, laidS, keepS, ho, hv, e, e0, e3, Bs, Cell]
          refine ⟨by omega, (xs ++ [(num B62 r).1], (num B62 r).2.1), ⟨h1.snoc hyes, by simp; omega⟩, by simp; omega, ?_⟩
          simp only [↓wt, wu, wk0, wk1, wk2, wk3, wkf, Nat.reduceAdd, Nat.reduceEqDiff, Nat.reduceLeDiff, Nat.reduceLT, Nat.reduceMul, Int.reduceLE, Int.reduceLT, Int.reduceEq, Int.reduceNe, wk4, laidS, keepS, Bs, e3, List.length_append, List.map_append, underL_append, underL_I, encI_eq]
          try trivial
        · have hno : (num B62 r).2.2 = false := by simp [num, ho, hv]
          simp only [↓wt, wu, wk0, wk1, wk2, wk3, Nat.reduceAdd, Nat.reduceEqDiff, Nat.reduceLeDiff, Nat.reduceLT, Nat.reduceMul, Int.reduceLE, Int.reduceLT, Int.reduceEq, Int.reduceNe, wk4, laidS, keepS, ho, hv, e, Bs, Try.results19]
          exact exp_someN (stop hno)
    · have hn2 : xs.length = n := by omega
      have hm := h1.many 0
      simp only [manyL, Nat.add_zero, List.append_nil, hn2] at hm
      simp only [↓wt, wu, wk0, wk1, wk2, wk3, Nat.reduceAdd, Nat.reduceEqDiff, Nat.reduceLeDiff, Nat.reduceLT, Nat.reduceMul, Int.reduceLE, Int.reduceLT, Int.reduceEq, Int.reduceNe, wk4, laidS, keepS, Bs, Try.results19]
      exact exp_someY (by rw [someT, hm, if_pos hn2]) rfl rfl
end Go.Ab
