/- Mail: what is put. Mail: what is put, as a row of the call's own. Mail: a message that has looks is put as a row of the call's own. -/
import Derived.Test.YtcikejikpnjilaaTMl4
import Derived.Test.YtcikejikpnjilaaAbG10
set_option linter.unusedSimpArgs false
set_option linter.unusedVariables false
set_option linter.constructorNameAsVariable false
set_option maxRecDepth 100000
namespace Go.Ab
open Go Go.Proofs Go.RowKit

theorem echoL_take {e : List (Int × Int)} {k : Nat} (h : k < e.length) : echoL (e.take (k + 1)) = echoL (e.take k) ++ [(lookAt e k).1, (lookAt e k).2] := by
  rw [List.take_add_one, List.getElem?_eq_getElem h, lookAt, List.getD_eq_getElem?_getD, List.getElem?_eq_getElem h, Option.toList_some, echoL_append]
  rfl
theorem echoL_part {e : List (Int × Int)} {k : Nat} : (echoL (e.take k)).length ≤ 2 * e.length := by
  rw [echoL_len, List.length_take]; omega
/-- What was put up to some look. -/
def encK (m : MailD) (k : Nat) : List UInt8 := encN (headL m) ++ (encN (numsB m.r) ++ encN (m.t :: m.w :: m.a :: m.k :: m.y :: m.p :: echoL (m.e.take k)))
theorem encK_len {m : MailD} {k : Nat} : (encK m k).length ≤ 100 + 10 * (numsB m.r).length + 20 * m.e.length := by
  have h1 := encN_len (headL m)
  have h2 := encN_len (numsB m.r)
  have h3 := encN_len (m.t :: m.w :: m.a :: m.k :: m.y :: m.p :: echoL (m.e.take k))
  have h4 := echoL_part (e := m.e) (k := k)
  simp only [encK, headL, List.length_append, List.length_cons, List.length_nil] at *
  omega
theorem encK_succ {m : MailD} {k : Nat} (h : k < m.e.length) : encK m (k + 1) = encK m k ++ encN [(lookAt m.e k).1, (lookAt m.e k).2] := by
  have e : m.t :: m.w :: m.a :: m.k :: m.y :: m.p :: echoL (m.e.take (k + 1)) = (m.t :: m.w :: m.a :: m.k :: m.y :: m.p :: echoL (m.e.take k)) ++ [(lookAt m.e k).1, (lookAt m.e k).2] := by rw [echoL_take h]; rfl
  unfold encK
  rw [e, encN_append]
  simp only [List.append_assoc]
theorem encK_all {m : MailD} : encK m m.e.length = encM m := by rw [encK, List.take_length]; rfl
theorem encK_0 {m : MailD} : encK m 0 = encN [m.f, m.o, m.ck] ++ encN (numsB m.r) ++ encN [m.t, m.w, m.a, m.k, m.y, m.p] := by
  simp only [encK, headL, List.take_zero, echoL, List.append_assoc, List.nil_append]
theorem under_put {n : FuncId} : Under 4 (.f n [.p 1 0 0 1]) := under_f.mpr fun a ha => by
  rw [List.mem_singleton.1 ha]; exact .p _ _ _ _ (by decide)
set_option maxHeartbeats 8000000 in
theorem mlput_call (m : MailD) (hn : (numsB m.r).length ≤ 10000000) (hr : m.r.length < 1000000000) (he : m.e.length ≤ 1000000) : PCall Try.prog 11 [MailV m] (Bs (encM m)) := by
  refine pcall_body tabOk Try.func11 rfl rfl (by rw [Try.ntmps11]; simp) ?_
  simp only [Try.ntmps11, MailV]
  have n1 := encN_len [m.f, m.o, m.ck]
  have n2 := encN_len (numsB m.r)
  have n3 := encK_len (m := m) (k := 0)
  simp only [List.length_cons, List.length_nil] at n1
  obtain ⟨b1, h1⟩ : ∃ b, b = encN [m.f, m.o, m.ck] := ⟨_, rfl⟩
  have l1 : b1.length ≤ 30 := by rw [h1]; omega
  obtain ⟨b2, h2⟩ : ∃ b, b = b1 ++ encN (numsB m.r) := ⟨_, rfl⟩
  have l2 : b2.length ≤ 30 + 10 * (numsB m.r).length := by rw [h2, List.length_append]; omega
  have h3 : b2 ++ encN [m.t, m.w, m.a, m.k, m.y, m.p] = encK m 0 := by rw [encK_0, h2, h1]
  have m2 := pput_call b1 m.r (by omega) hr
  rw [← h2] at m2
  simp only [↓wt, wu, wk0, wk1, wk2, wk3, Nat.reduceAdd, Nat.reduceEqDiff, Nat.reduceLeDiff, Nat.reduceLT, Nat.reduceMul, Int.reduceLE, Int.reduceLT, Int.reduceEq, Int.reduceNe, wk4, laidS, keepS]
  refine icall_see 1 24 1 1 rfl ?_
  simp only [↓wt, wu, wk0, wk1, wk2, wk3, Nat.reduceAdd, Nat.reduceEqDiff, Nat.reduceLeDiff, Nat.reduceLT, Nat.reduceMul, Int.reduceLE, Int.reduceLT, Int.reduceEq, Int.reduceNe, wk4, laidS, keepS]
  refine mlput1_lend 1 2 [] [m.f, m.o, m.ck] rfl (by decide) rfl rfl (by simp) ?_
  simp only [↓wt, wu, wk0, wk1, wk2, wk3, Nat.reduceAdd, Nat.reduceEqDiff, Nat.reduceLeDiff, Nat.reduceLT, Nat.reduceMul, Int.reduceLE, Int.reduceLT, Int.reduceEq, Int.reduceNe, wk4, laidS, keepS, PutN, Bs, rnI, nblt, rn0, rnC, rnE, rnR, rnB, putAll, Nat.reduceSub, Nat.sub_zero, Nat.not_lt_zero, Nat.zero_sub, Nat.sub_self, rn_I, rn_B]
  simp only [← h1]
  refine icall_drop [] m2 ⟨arg_l (pureB _), arg_books, trivial⟩ okR_Bs ?_
  simp only [↓wt, wu, wk0, wk1, wk2, wk3, Nat.reduceAdd, Nat.reduceEqDiff, Nat.reduceLeDiff, Nat.reduceLT, Nat.reduceMul, Int.reduceLE, Int.reduceLT, Int.reduceEq, Int.reduceNe, wk4, laidS, keepS, Bs, Cell]
  refine mlput1_lend 1 3 b2 [m.t, m.w, m.a, m.k, m.y, m.p] rfl (by decide) rfl rfl (by simp; omega) ?_
  simp only [↓wt, wu, wk0, wk1, wk2, wk3, Nat.reduceAdd, Nat.reduceEqDiff, Nat.reduceLeDiff, Nat.reduceLT, Nat.reduceMul, Int.reduceLE, Int.reduceLT, Int.reduceEq, Int.reduceNe, wk4, laidS, keepS, PutN, Bs, rnI, nblt, rn0, rnC, rnE, rnR, rnB, putAll, Nat.reduceSub, Nat.sub_zero, Nat.not_lt_zero, Nat.zero_sub, Nat.sub_self, rn_I, rn_B]
  simp only [h3]
  refine loop_ruleG tabOk [3, 4, 44, 45] (fun k : Nat => [(46, .c (.int .i64 k))]) (fun k => ⟨[(1, ⟨24, 1, [Bs (encK m k)]⟩)], 4⟩) (fun k => k ≤ m.e.length) (fun k => m.e.length - k) 0 (by omega) (fun _ => Nat.le_refl _) ?_ ?_
  · simp only [↓wt, wu, wk0, wk1, wk2, wk3, wkf, Nat.reduceAdd, Nat.reduceEqDiff, Nat.reduceLeDiff, Nat.reduceLT, Nat.reduceMul, Int.reduceLE, Int.reduceLT, Int.reduceEq, Int.reduceNe, wk4, laidS, keepS, Bs, underL_K]
    exact under_put
  · intro k hk
    have e3 := wi_succ (k := k) (by omega)
    have n4 := encK_len (m := m) (k := k)
    simp only [↓wt, wu, wk0, wk1, wk2, wk3, Nat.reduceAdd, Nat.reduceEqDiff, Nat.reduceLeDiff, Nat.reduceLT, Nat.reduceMul, Int.reduceLE, Int.reduceLT, Int.reduceEq, Int.reduceNe, wk4, laidS, keepS, Bs]
    repeat' (first | (refine r_casesD (fun hp hb => ?_) (fun hp hb => ?_) <;> simp only [↓wt, wu, wk0, wk1, wk2, wk3, Nat.reduceAdd, Nat.reduceEqDiff, Nat.reduceLeDiff, Nat.reduceLT, Nat.reduceMul, Int.reduceLE, Int.reduceLT, Int.reduceEq, Int.reduceNe, wk4, laidS, keepS, hb]) | (refine r_casesN (fun hp hb => ?_) (fun hp hb => ?_) <;> simp only [↓wt, wu, wk0, wk1, wk2, wk3, Nat.reduceAdd, Nat.reduceEqDiff, Nat.reduceLeDiff, Nat.reduceLT, Nat.reduceMul, Int.reduceLE, Int.reduceLT, Int.reduceEq, Int.reduceNe, wk4, laidS, keepS, hb]) | (refine r_casesM (fun hp hb => ?_) (fun hp hb => ?_) <;> simp only [↓wt, wu, wk0, wk1, wk2, wk3, Nat.reduceAdd, Nat.reduceEqDiff, Nat.reduceLeDiff, Nat.reduceLT, Nat.reduceMul, Int.reduceLE, Int.reduceLT, Int.reduceEq, Int.reduceNe, wk4, laidS, keepS, hb]) | (refine r_casesB (fun hp hb => ?_) (fun hp hb => ?_) <;> simp only [↓wt, wu, wk0, wk1, wk2, wk3, Nat.reduceAdd, Nat.reduceEqDiff, Nat.reduceLeDiff, Nat.reduceLT, Nat.reduceMul, Int.reduceLE, Int.reduceLT, Int.reduceEq, Int.reduceNe, wk4, laidS, keepS, hb]) | (refine r_gcasesD (fun hp hb => ?_) (fun hp hb => ?_) <;> simp only [↓wt, wu, wk0, wk1, wk2, wk3, Nat.reduceAdd, Nat.reduceEqDiff, Nat.reduceLeDiff, Nat.reduceLT, Nat.reduceMul, Int.reduceLE, Int.reduceLT, Int.reduceEq, Int.reduceNe, wk4, laidS, keepS, hb]) | (refine r_gcasesN (fun hp hb => ?_) (fun hp hb => ?_) <;> simp only [↓wt, wu, wk0, wk1, wk2, wk3, Nat.reduceAdd, Nat.reduceEqDiff, Nat.reduceLeDiff, Nat.reduceLT, Nat.reduceMul, Int.reduceLE, Int.reduceLT, Int.reduceEq, Int.reduceNe, wk4, laidS, keepS, hb]) | (refine r_gcasesM (fun hp hb => ?_) (fun hp hb => ?_) <;> simp only [↓wt, wu, wk0, wk1, wk2, wk3, Nat.reduceAdd, Nat.reduceEqDiff, Nat.reduceLeDiff, Nat.reduceLT, Nat.reduceMul, Int.reduceLE, Int.reduceLT, Int.reduceEq, Int.reduceNe, wk4, laidS, keepS, hb]) | (refine r_gcasesB (fun hp hb => ?_) (fun hp hb => ?_) <;> simp only [↓wt, wu, wk0, wk1, wk2, wk3, Nat.reduceAdd, Nat.reduceEqDiff, Nat.reduceLeDiff, Nat.reduceLT, Nat.reduceMul, Int.reduceLE, Int.reduceLT, Int.reduceEq, Int.reduceNe, wk4, laidS, keepS, hb]) | ((with_reducible refine And.intro ?_ ?_); omega) | fail)
    · have hkl : k < m.e.length := by omega
      simp only [↓wt, wu, wk0, wk1, wk2, wk3, Nat.reduceAdd, Nat.reduceEqDiff, Nat.reduceLeDiff, Nat.reduceLT, Nat.reduceMul, Int.reduceLE, Int.reduceLT, Int.reduceEq, Int.reduceNe, wk4, laidS, keepS, elem_K, LookV_eq]
      repeat (refine And.intro (by omega) ?_)
      refine mlput1_lend 1 5 (encK m k) [(lookAt m.e k).1, (lookAt m.e k).2] rfl (by decide) rfl rfl (by simp; omega) ?_
      simp only [↓wt, wu, wk0, wk1, wk2, wk3, Nat.reduceAdd, Nat.reduceEqDiff, Nat.reduceLeDiff, Nat.reduceLT, Nat.reduceMul, Int.reduceLE, Int.reduceLT, Int.reduceEq, Int.reduceNe, wk4, laidS, keepS, PutN, Bs, e3, rnI, nblt, rn0, rnC, rnE, rnR, rnB, putAll, Nat.reduceSub, Nat.sub_zero, Nat.not_lt_zero, Nat.zero_sub, Nat.sub_self, rn_I, rn_B]
      refine ⟨k + 1, by omega, by omega, ?_⟩
      simp only [↓wt, wu, wk0, wk1, wk2, wk3, wkf, Nat.reduceAdd, Nat.reduceEqDiff, Nat.reduceLeDiff, Nat.reduceLT, Nat.reduceMul, Int.reduceLE, Int.reduceLT, Int.reduceEq, Int.reduceNe, wk4, laidS, keepS, Bs, e3, underL_K, encK_succ, hkl]
      exact under_put
    · have hk2 : k = m.e.length := by omega
      subst hk2
      rw [encK_all]
      simp only [↓wt, wu, wk0, wk1, wk2, wk3, Nat.reduceAdd, Nat.reduceEqDiff, Nat.reduceLeDiff, Nat.reduceLT, Nat.reduceMul, Int.reduceLE, Int.reduceLT, Int.reduceEq, Int.reduceNe, wk4, laidS, keepS, Bs, Try.results11]
      exact exp_self (.l _ _ (pureB _))
end Go.Ab

set_option linter.unusedSimpArgs false
set_option linter.unusedVariables false
set_option linter.constructorNameAsVariable false
set_option maxRecDepth 100000
namespace Go.Ab
open Go Go.Proofs Go.RowKit

def PutO (l : List UInt8) (ns : List Int) : Mem := ⟨[(0, ⟨24, 1, [.s 2 0 l.length]⟩), (1, ⟨2, 1, ns.map encI⟩), (2, ⟨5, 1, l.map encB⟩)], 3⟩
def PutQ (l : List UInt8) (ns : List Int) (k : Nat) : Mem := if k < ns.length then PutN (l ++ encN (ns.take k)) ns else PutO (l ++ encN ns) ns
theorem putQ_lt {l : List UInt8} {ns : List Int} {k : Nat} (h : k < ns.length) : PutQ l ns k = PutN (l ++ encN (ns.take k)) ns := if_pos h
theorem putQ_ge {l : List UInt8} {ns : List Int} {k : Nat} (h : ¬ k < ns.length) : PutQ l ns k = PutO (l ++ encN ns) ns := if_neg h
theorem putQ_k {l : List UInt8} {ns : List Int} {k : Nat} : 2 ≤ (PutQ l ns k).k := by
  unfold PutQ; split
  · exact Nat.le_refl _
  · exact (by decide : 2 ≤ 3)
set_option maxHeartbeats 2000000 in
theorem mlput1_own (l : List UInt8) (ns : List Int) (h0 : 0 < ns.length) (hl : l.length + 10 * ns.length ≤ 1000000000) : ICall Try.prog 22 [.s 1 0 ns.length, .p 0 0 0 1] (PutN l ns) (fun a M' => a = .t [] ∧ M' = PutO (l ++ encN ns) ns) := by
  refine icall_body tabOk Try.func22 rfl rfl (by rw [Try.ntmps22]; simp) (aw_sound tabOk _ _ _ ?_)
  simp only [Try.ntmps22, PutN, Bs]
  simp only [↓wt, wu, wk0, wk1, wk2, wk3, Nat.reduceAdd, Nat.reduceEqDiff, Nat.reduceLeDiff, Nat.reduceLT, Nat.reduceMul, Int.reduceLE, Int.reduceLT, Int.reduceEq, Int.reduceNe, wk4, laidS, keepS]
  refine loop_ruleG tabOk [1, 5, 6] (fun k : Nat => [(7, .c (.int .i64 k))]) (fun k => PutQ l ns k) (fun k => k ≤ ns.length) (fun k => ns.length - k) 0 (by omega) (fun _ => putQ_k) ?_ ?_
  · simp only [↓wt, wu, wk0, wk1, wk2, wk3, wkf, Nat.reduceAdd, Nat.reduceEqDiff, Nat.reduceLeDiff, Nat.reduceLT, Nat.reduceMul, Int.reduceLE, Int.reduceLT, Int.reduceEq, Int.reduceNe, wk4, laidS, keepS, putQ_lt, h0, PutN, Bs, encN, List.take_zero, List.append_nil]
    try trivial
  · intro k h1
    have e3 := wi_succ (k := k) (by omega)
    have h2 := encNI_len (l := ns) (k := k)
    by_cases hkl : k < ns.length
    · simp only [↓wt, wu, wk0, wk1, wk2, wk3, Nat.reduceAdd, Nat.reduceEqDiff, Nat.reduceLeDiff, Nat.reduceLT, Nat.reduceMul, Int.reduceLE, Int.reduceLT, Int.reduceEq, Int.reduceNe, wk4, laidS, keepS, putQ_lt, hkl, PutN, Bs]
      repeat' (first | (refine r_casesD (fun hp hb => ?_) (fun hp hb => ?_) <;> simp only [↓wt, wu, wk0, wk1, wk2, wk3, Nat.reduceAdd, Nat.reduceEqDiff, Nat.reduceLeDiff, Nat.reduceLT, Nat.reduceMul, Int.reduceLE, Int.reduceLT, Int.reduceEq, Int.reduceNe, wk4, laidS, keepS, hb]) | (refine r_casesN (fun hp hb => ?_) (fun hp hb => ?_) <;> simp only [↓wt, wu, wk0, wk1, wk2, wk3, Nat.reduceAdd, Nat.reduceEqDiff, Nat.reduceLeDiff, Nat.reduceLT, Nat.reduceMul, Int.reduceLE, Int.reduceLT, Int.reduceEq, Int.reduceNe, wk4, laidS, keepS, hb]) | (refine r_casesM (fun hp hb => ?_) (fun hp hb => ?_) <;> simp only [↓wt, wu, wk0, wk1, wk2, wk3, Nat.reduceAdd, Nat.reduceEqDiff, Nat.reduceLeDiff, Nat.reduceLT, Nat.reduceMul, Int.reduceLE, Int.reduceLT, Int.reduceEq, Int.reduceNe, wk4, laidS, keepS, hb]) | (refine r_casesB (fun hp hb => ?_) (fun hp hb => ?_) <;> simp only [↓wt, wu, wk0, wk1, wk2, wk3, Nat.reduceAdd, Nat.reduceEqDiff, Nat.reduceLeDiff, Nat.reduceLT, Nat.reduceMul, Int.reduceLE, Int.reduceLT, Int.reduceEq, Int.reduceNe, wk4, laidS, keepS, hb]) | (refine r_gcasesD (fun hp hb => ?_) (fun hp hb => ?_) <;> simp only [↓wt, wu, wk0, wk1, wk2, wk3, Nat.reduceAdd, Nat.reduceEqDiff, Nat.reduceLeDiff, Nat.reduceLT, Nat.reduceMul, Int.reduceLE, Int.reduceLT, Int.reduceEq, Int.reduceNe, wk4, laidS, keepS, hb]) | (refine r_gcasesN (fun hp hb => ?_) (fun hp hb => ?_) <;> simp only [↓wt, wu, wk0, wk1, wk2, wk3, Nat.reduceAdd, Nat.reduceEqDiff, Nat.reduceLeDiff, Nat.reduceLT, Nat.reduceMul, Int.reduceLE, Int.reduceLT, Int.reduceEq, Int.reduceNe, wk4, laidS, keepS, hb]) | (refine r_gcasesM (fun hp hb => ?_) (fun hp hb => ?_) <;> simp only [↓wt, wu, wk0, wk1, wk2, wk3, Nat.reduceAdd, Nat.reduceEqDiff, Nat.reduceLeDiff, Nat.reduceLT, Nat.reduceMul, Int.reduceLE, Int.reduceLT, Int.reduceEq, Int.reduceNe, wk4, laidS, keepS, hb]) | (refine r_gcasesB (fun hp hb => ?_) (fun hp hb => ?_) <;> simp only [↓wt, wu, wk0, wk1, wk2, wk3, Nat.reduceAdd, Nat.reduceEqDiff, Nat.reduceLeDiff, Nat.reduceLT, Nat.reduceMul, Int.reduceLE, Int.reduceLT, Int.reduceEq, Int.reduceNe, wk4, laidS, keepS, hb]) | ((with_reducible refine And.intro ?_ ?_); omega) | fail)
      · simp only [↓wt, wu, wk0, wk1, wk2, wk3, Nat.reduceAdd, Nat.reduceEqDiff, Nat.reduceLeDiff, Nat.reduceLT, Nat.reduceMul, Int.reduceLE, Int.reduceLT, Int.reduceEq, Int.reduceNe, wk4, laidS, keepS, elem_I, uNat_eq]
        repeat (refine And.intro (by omega) ?_)
        by_cases hk1 : k + 1 < ns.length
        · refine icall_drop [] (nput_call (l ++ encN (ns.take k)) (uNat (ns.getD k 0)) (by rw [List.length_append]; omega) (uNat_lt _)).frz ⟨arg_l (pureB _), arg_c, trivial⟩ under_B ?_
          simp only [↓wt, wu, wk0, wk1, wk2, wk3, Nat.reduceAdd, Nat.reduceEqDiff, Nat.reduceLeDiff, Nat.reduceLT, Nat.reduceMul, Int.reduceLE, Int.reduceLT, Int.reduceEq, Int.reduceNe, wk4, laidS, keepS, e3, Bs, Cell]
          refine ⟨k + 1, by omega, by omega, ?_⟩
          simp only [↓wt, wu, wk0, wk1, wk2, wk3, wkf, Nat.reduceAdd, Nat.reduceEqDiff, Nat.reduceLeDiff, Nat.reduceLT, Nat.reduceMul, Int.reduceLE, Int.reduceLT, Int.reduceEq, Int.reduceNe, wk4, laidS, keepS, putQ_lt, hk1, PutN, Bs, e3, underL_I, takeI_snoc, hkl, List.append_assoc]
          try trivial
        · have hkk : k + 1 = ns.length := by omega
          have hnb := nput_call (l ++ encN (ns.take k)) (uNat (ns.getD k 0)) (by rw [List.length_append]; omega) (uNat_lt _)
          have hall : l ++ encN (ns.take k) ++ putL (uNat (ns.getD k 0)) = l ++ encN ns := by
            rw [List.append_assoc, ← takeI_snoc hkl, hkk, List.take_length]
          rw [hall] at hnb
          refine icall_drop [] hnb ⟨arg_l (pureB _), arg_c, trivial⟩ (pureB _) ?_
          simp only [↓wt, wu, wk0, wk1, wk2, wk3, Nat.reduceAdd, Nat.reduceEqDiff, Nat.reduceLeDiff, Nat.reduceLT, Nat.reduceMul, Int.reduceLE, Int.reduceLT, Int.reduceEq, Int.reduceNe, wk4, laidS, keepS, e3, Bs, Cell]
          refine ⟨k + 1, by omega, by omega, ?_⟩
          have q2 := putQ_ge (l := l) hk1
          simp only [↓wt, wu, wk0, wk1, wk2, wk3, wkf, Nat.reduceAdd, Nat.reduceEqDiff, Nat.reduceLeDiff, Nat.reduceLT, Nat.reduceMul, Int.reduceLE, Int.reduceLT, Int.reduceEq, Int.reduceNe, wk4, laidS, keepS, q2, PutO, Bs, e3, underL_I, List.append_assoc]
          try trivial
      · exfalso; omega
    · have hk2 : k = ns.length := by omega
      subst hk2
      have q2 := putQ_ge (l := l) hkl
      simp only [↓wt, wu, wk0, wk1, wk2, wk3, Nat.reduceAdd, Nat.reduceEqDiff, Nat.reduceLeDiff, Nat.reduceLT, Nat.reduceMul, Int.reduceLE, Int.reduceLT, Int.reduceEq, Int.reduceNe, wk4, laidS, keepS, q2, PutO, Bs]
      repeat' (first | (refine r_casesD (fun hp hb => ?_) (fun hp hb => ?_) <;> simp only [↓wt, wu, wk0, wk1, wk2, wk3, Nat.reduceAdd, Nat.reduceEqDiff, Nat.reduceLeDiff, Nat.reduceLT, Nat.reduceMul, Int.reduceLE, Int.reduceLT, Int.reduceEq, Int.reduceNe, wk4, laidS, keepS, hb]) | (refine r_casesN (fun hp hb => ?_) (fun hp hb => ?_) <;> simp only [↓wt, wu, wk0, wk1, wk2, wk3, Nat.reduceAdd, Nat.reduceEqDiff, Nat.reduceLeDiff, Nat.reduceLT, Nat.reduceMul, Int.reduceLE, Int.reduceLT, Int.reduceEq, Int.reduceNe, wk4, laidS, keepS, hb]) | (refine r_casesM (fun hp hb => ?_) (fun hp hb => ?_) <;> simp only [↓wt, wu, wk0, wk1, wk2, wk3, Nat.reduceAdd, Nat.reduceEqDiff, Nat.reduceLeDiff, Nat.reduceLT, Nat.reduceMul, Int.reduceLE, Int.reduceLT, Int.reduceEq, Int.reduceNe, wk4, laidS, keepS, hb]) | (refine r_casesB (fun hp hb => ?_) (fun hp hb => ?_) <;> simp only [↓wt, wu, wk0, wk1, wk2, wk3, Nat.reduceAdd, Nat.reduceEqDiff, Nat.reduceLeDiff, Nat.reduceLT, Nat.reduceMul, Int.reduceLE, Int.reduceLT, Int.reduceEq, Int.reduceNe, wk4, laidS, keepS, hb]) | (refine r_gcasesD (fun hp hb => ?_) (fun hp hb => ?_) <;> simp only [↓wt, wu, wk0, wk1, wk2, wk3, Nat.reduceAdd, Nat.reduceEqDiff, Nat.reduceLeDiff, Nat.reduceLT, Nat.reduceMul, Int.reduceLE, Int.reduceLT, Int.reduceEq, Int.reduceNe, wk4, laidS, keepS, hb]) | (refine r_gcasesN (fun hp hb => ?_) (fun hp hb => ?_) <;> simp only [↓wt, wu, wk0, wk1, wk2, wk3, Nat.reduceAdd, Nat.reduceEqDiff, Nat.reduceLeDiff, Nat.reduceLT, Nat.reduceMul, Int.reduceLE, Int.reduceLT, Int.reduceEq, Int.reduceNe, wk4, laidS, keepS, hb]) | (refine r_gcasesM (fun hp hb => ?_) (fun hp hb => ?_) <;> simp only [↓wt, wu, wk0, wk1, wk2, wk3, Nat.reduceAdd, Nat.reduceEqDiff, Nat.reduceLeDiff, Nat.reduceLT, Nat.reduceMul, Int.reduceLE, Int.reduceLT, Int.reduceEq, Int.reduceNe, wk4, laidS, keepS, hb]) | (refine r_gcasesB (fun hp hb => ?_) (fun hp hb => ?_) <;> simp only [↓wt, wu, wk0, wk1, wk2, wk3, Nat.reduceAdd, Nat.reduceEqDiff, Nat.reduceLeDiff, Nat.reduceLT, Nat.reduceMul, Int.reduceLE, Int.reduceLT, Int.reduceEq, Int.reduceNe, wk4, laidS, keepS, hb]) | ((with_reducible refine And.intro ?_ ?_); omega) | fail)
      · exfalso; omega
      · simp only [↓wt, wu, wk0, wk1, wk2, wk3, Nat.reduceAdd, Nat.reduceEqDiff, Nat.reduceLeDiff, Nat.reduceLT, Nat.reduceMul, Int.reduceLE, Int.reduceLT, Int.reduceEq, Int.reduceNe, wk4, laidS, keepS, Bs, List.take_length, Try.results22]
        try exact ⟨rfl, rfl⟩
theorem mlput1_olend {M : Mem} {K : AV → Mem → Prop} (a d : Nat) (l : List UInt8) (ns : List Int) {n : Nat} (h0 : 0 < ns.length) (hs : n = ns.length) (hn : [a, d].Nodup) (ha : M.get a = some ⟨24, 1, [Bs l]⟩) (hd : M.get d = some ⟨2, 1, ns.map encI⟩) (hl : l.length + 10 * ns.length ≤ 1000000000)
    (hK : K (.t []) ⟨putAll (rnI [a, d] M.k) (M.without [a, d]).l (PutO (l ++ encN ns) ns).l, M.k + 1⟩) : ICall Try.prog 22 [.s d 0 n, .p a 0 0 1] M K := by
  subst hs
  refine icall_lend [a, d] [⟨24, 1, [Bs l]⟩, ⟨2, 1, ns.map encI⟩] (mlput1_own l ns h0 hl) hn ⟨⟨ha, ?_⟩, ⟨?_, hd_I⟩, trivial⟩ ⟨.inl ⟨rfl, show 1 < 2 by decide⟩, .inl ⟨rfl, show 0 < 2 by decide⟩, trivial⟩ (fun v hv => by simp at hv) ⟨?_, hd_I, hd_B, trivial⟩ hK
  · intro x hx
    rw [List.mem_singleton.1 hx]
    exact .l _ _ (pureB _)
  · rw [hd]
    show some (Blk.mk _ 1 (ns.map encI)) = some ⟨_, 1, (ns.map encI).map (rnE (rnI [a, d] M.k))⟩
    rw [rn_I]
  · intro x hx
    rw [List.mem_singleton.1 hx]
    exact show 2 < 3 by decide
end Go.Ab

set_option linter.unusedSimpArgs false
set_option linter.unusedVariables false
set_option linter.constructorNameAsVariable false
set_option maxRecDepth 100000
namespace Go.Ab
open Go Go.Proofs Go.RowKit

def MpD (b : List UInt8) : Mem := ⟨[(1, ⟨24, 1, [Bs b]⟩)], 4⟩
def MpO (b : List UInt8) (j : Nat) : Mem := ⟨[(1, ⟨24, 1, [.s j 0 b.length]⟩), (j, ⟨5, 1, b.map encB⟩)], j + 1⟩
def MpQ (m : MailD) (k : Nat) : Mem := if k < m.e.length then MpD (encK m k) else MpO (encM m) 6
theorem mpQ_lt {m : MailD} {k : Nat} (h : k < m.e.length) : MpQ m k = MpD (encK m k) := if_pos h
theorem mpQ_ge {m : MailD} {k : Nat} (h : ¬ k < m.e.length) : MpQ m k = MpO (encM m) 6 := if_neg h
theorem mpQ_k {m : MailD} {k : Nat} : 4 ≤ (MpQ m k).k := by
  unfold MpQ; split
  · exact Nat.le_refl _
  · exact (by decide : 4 ≤ 7)
set_option maxHeartbeats 8000000 in
theorem mlput_own (m : MailD) (h0 : 0 < m.e.length) (hn : (numsB m.r).length ≤ 10000000) (hr : m.r.length < 1000000000) (he : m.e.length ≤ 1000000) : PCall Try.prog 11 [MailV m] (.o 5 1 ((encM m).map encB)) := by
  refine pcall_body tabOk Try.func11 rfl rfl (by rw [Try.ntmps11]; simp) ?_
  simp only [Try.ntmps11, MailV]
  have n1 := encN_len [m.f, m.o, m.ck]
  have n2 := encN_len (numsB m.r)
  have n3 := encK_len (m := m) (k := 0)
  simp only [List.length_cons, List.length_nil] at n1
  obtain ⟨b1, h1⟩ : ∃ b, b = encN [m.f, m.o, m.ck] := ⟨_, rfl⟩
  have l1 : b1.length ≤ 30 := by rw [h1]; omega
  obtain ⟨b2, h2⟩ : ∃ b, b = b1 ++ encN (numsB m.r) := ⟨_, rfl⟩
  have l2 : b2.length ≤ 30 + 10 * (numsB m.r).length := by rw [h2, List.length_append]; omega
  have h3 : b2 ++ encN [m.t, m.w, m.a, m.k, m.y, m.p] = encK m 0 := by rw [encK_0, h2, h1]
  have m2 := pput_call b1 m.r (by omega) hr
  rw [← h2] at m2
  simp only [↓wt, wu, wk0, wk1, wk2, wk3, Nat.reduceAdd, Nat.reduceEqDiff, Nat.reduceLeDiff, Nat.reduceLT, Nat.reduceMul, Int.reduceLE, Int.reduceLT, Int.reduceEq, Int.reduceNe, wk4, laidS, keepS]
  refine icall_see 1 24 1 1 rfl ?_
  simp only [↓wt, wu, wk0, wk1, wk2, wk3, Nat.reduceAdd, Nat.reduceEqDiff, Nat.reduceLeDiff, Nat.reduceLT, Nat.reduceMul, Int.reduceLE, Int.reduceLT, Int.reduceEq, Int.reduceNe, wk4, laidS, keepS]
  refine mlput1_lend 1 2 [] [m.f, m.o, m.ck] rfl (by decide) rfl rfl (by simp) ?_
  simp only [↓wt, wu, wk0, wk1, wk2, wk3, Nat.reduceAdd, Nat.reduceEqDiff, Nat.reduceLeDiff, Nat.reduceLT, Nat.reduceMul, Int.reduceLE, Int.reduceLT, Int.reduceEq, Int.reduceNe, wk4, laidS, keepS, PutN, Bs, rnI, nblt, rn0, rnC, rnE, rnR, rnB, putAll, Nat.reduceSub, Nat.sub_zero, Nat.not_lt_zero, Nat.zero_sub, Nat.sub_self, rn_I, rn_B]
  simp only [← h1]
  refine icall_drop [] m2 ⟨arg_l (pureB _), arg_books, trivial⟩ okR_Bs ?_
  simp only [↓wt, wu, wk0, wk1, wk2, wk3, Nat.reduceAdd, Nat.reduceEqDiff, Nat.reduceLeDiff, Nat.reduceLT, Nat.reduceMul, Int.reduceLE, Int.reduceLT, Int.reduceEq, Int.reduceNe, wk4, laidS, keepS, Bs, Cell]
  refine mlput1_lend 1 3 b2 [m.t, m.w, m.a, m.k, m.y, m.p] rfl (by decide) rfl rfl (by simp; omega) ?_
  simp only [↓wt, wu, wk0, wk1, wk2, wk3, Nat.reduceAdd, Nat.reduceEqDiff, Nat.reduceLeDiff, Nat.reduceLT, Nat.reduceMul, Int.reduceLE, Int.reduceLT, Int.reduceEq, Int.reduceNe, wk4, laidS, keepS, PutN, Bs, rnI, nblt, rn0, rnC, rnE, rnR, rnB, putAll, Nat.reduceSub, Nat.sub_zero, Nat.not_lt_zero, Nat.zero_sub, Nat.sub_self, rn_I, rn_B]
  simp only [h3]
  refine loop_ruleG tabOk [3, 4, 44, 45] (fun k : Nat => [(46, .c (.int .i64 k))]) (fun k => MpQ m k) (fun k => k ≤ m.e.length) (fun k => m.e.length - k) 0 (by omega) (fun _ => mpQ_k) ?_ ?_
  · simp only [↓wt, wu, wk0, wk1, wk2, wk3, wkf, Nat.reduceAdd, Nat.reduceEqDiff, Nat.reduceLeDiff, Nat.reduceLT, Nat.reduceMul, Int.reduceLE, Int.reduceLT, Int.reduceEq, Int.reduceNe, wk4, laidS, keepS, mpQ_lt, h0, MpD, Bs, underL_K]
    exact under_put
  · intro k hk
    have e3 := wi_succ (k := k) (by omega)
    have n4 := encK_len (m := m) (k := k)
    by_cases hkl : k < m.e.length
    · simp only [↓wt, wu, wk0, wk1, wk2, wk3, Nat.reduceAdd, Nat.reduceEqDiff, Nat.reduceLeDiff, Nat.reduceLT, Nat.reduceMul, Int.reduceLE, Int.reduceLT, Int.reduceEq, Int.reduceNe, wk4, laidS, keepS, mpQ_lt, hkl, MpD, Bs]
      repeat' (first | (refine r_casesD (fun hp hb => ?_) (fun hp hb => ?_) <;> simp only [↓wt, wu, wk0, wk1, wk2, wk3, Nat.reduceAdd, Nat.reduceEqDiff, Nat.reduceLeDiff, Nat.reduceLT, Nat.reduceMul, Int.reduceLE, Int.reduceLT, Int.reduceEq, Int.reduceNe, wk4, laidS, keepS, hb]) | (refine r_casesN (fun hp hb => ?_) (fun hp hb => ?_) <;> simp only [↓wt, wu, wk0, wk1, wk2, wk3, Nat.reduceAdd, Nat.reduceEqDiff, Nat.reduceLeDiff, Nat.reduceLT, Nat.reduceMul, Int.reduceLE, Int.reduceLT, Int.reduceEq, Int.reduceNe, wk4, laidS, keepS, hb]) | (refine r_casesM (fun hp hb => ?_) (fun hp hb => ?_) <;> simp only [↓wt, wu, wk0, wk1, wk2, wk3, Nat.reduceAdd, Nat.reduceEqDiff, Nat.reduceLeDiff, Nat.reduceLT, Nat.reduceMul, Int.reduceLE, Int.reduceLT, Int.reduceEq, Int.reduceNe, wk4, laidS, keepS, hb]) | (refine r_casesB (fun hp hb => ?_) (fun hp hb => ?_) <;> simp only [↓wt, wu, wk0, wk1, wk2, wk3, Nat.reduceAdd, Nat.reduceEqDiff, Nat.reduceLeDiff, Nat.reduceLT, Nat.reduceMul, Int.reduceLE, Int.reduceLT, Int.reduceEq, Int.reduceNe, wk4, laidS, keepS, hb]) | (refine r_gcasesD (fun hp hb => ?_) (fun hp hb => ?_) <;> simp only [↓wt, wu, wk0, wk1, wk2, wk3, Nat.reduceAdd, Nat.reduceEqDiff, Nat.reduceLeDiff, Nat.reduceLT, Nat.reduceMul, Int.reduceLE, Int.reduceLT, Int.reduceEq, Int.reduceNe, wk4, laidS, keepS, hb]) | (refine r_gcasesN (fun hp hb => ?_) (fun hp hb => ?_) <;> simp only [↓wt, wu, wk0, wk1, wk2, wk3, Nat.reduceAdd, Nat.reduceEqDiff, Nat.reduceLeDiff, Nat.reduceLT, Nat.reduceMul, Int.reduceLE, Int.reduceLT, Int.reduceEq, Int.reduceNe, wk4, laidS, keepS, hb]) | (refine r_gcasesM (fun hp hb => ?_) (fun hp hb => ?_) <;> simp only [↓wt, wu, wk0, wk1, wk2, wk3, Nat.reduceAdd, Nat.reduceEqDiff, Nat.reduceLeDiff, Nat.reduceLT, Nat.reduceMul, Int.reduceLE, Int.reduceLT, Int.reduceEq, Int.reduceNe, wk4, laidS, keepS, hb]) | (refine r_gcasesB (fun hp hb => ?_) (fun hp hb => ?_) <;> simp only [↓wt, wu, wk0, wk1, wk2, wk3, Nat.reduceAdd, Nat.reduceEqDiff, Nat.reduceLeDiff, Nat.reduceLT, Nat.reduceMul, Int.reduceLE, Int.reduceLT, Int.reduceEq, Int.reduceNe, wk4, laidS, keepS, hb]) | ((with_reducible refine And.intro ?_ ?_); omega) | fail)
      · simp only [↓wt, wu, wk0, wk1, wk2, wk3, Nat.reduceAdd, Nat.reduceEqDiff, Nat.reduceLeDiff, Nat.reduceLT, Nat.reduceMul, Int.reduceLE, Int.reduceLT, Int.reduceEq, Int.reduceNe, wk4, laidS, keepS, elem_K, LookV_eq]
        repeat (refine And.intro (by omega) ?_)
        by_cases hk1 : k + 1 < m.e.length
        · refine mlput1_lend 1 5 (encK m k) [(lookAt m.e k).1, (lookAt m.e k).2] rfl (by decide) rfl rfl (by simp; omega) ?_
          simp only [↓wt, wu, wk0, wk1, wk2, wk3, Nat.reduceAdd, Nat.reduceEqDiff, Nat.reduceLeDiff, Nat.reduceLT, Nat.reduceMul, Int.reduceLE, Int.reduceLT, Int.reduceEq, Int.reduceNe, wk4, laidS, keepS, PutN, Bs, e3, rnI, nblt, rn0, rnC, rnE, rnR, rnB, putAll, Nat.reduceSub, Nat.sub_zero, Nat.not_lt_zero, Nat.zero_sub, Nat.sub_self, rn_I, rn_B]
          refine ⟨k + 1, by omega, by omega, ?_⟩
          simp only [↓wt, wu, wk0, wk1, wk2, wk3, wkf, Nat.reduceAdd, Nat.reduceEqDiff, Nat.reduceLeDiff, Nat.reduceLT, Nat.reduceMul, Int.reduceLE, Int.reduceLT, Int.reduceEq, Int.reduceNe, wk4, laidS, keepS, mpQ_lt, hk1, MpD, Bs, e3, underL_K, encK_succ, hkl]
          exact under_put
        · have hkk : k + 1 = m.e.length := by omega
          have hen : encK m k ++ encN [(lookAt m.e k).1, (lookAt m.e k).2] = encM m := by rw [← encK_succ hkl, hkk, encK_all]
          refine mlput1_olend 1 5 (encK m k) [(lookAt m.e k).1, (lookAt m.e k).2] (by simp) rfl (by decide) rfl rfl (by simp; omega) ?_
          rw [hen]
          simp only [↓wt, wu, wk0, wk1, wk2, wk3, Nat.reduceAdd, Nat.reduceEqDiff, Nat.reduceLeDiff, Nat.reduceLT, Nat.reduceMul, Int.reduceLE, Int.reduceLT, Int.reduceEq, Int.reduceNe, wk4, laidS, keepS, PutO, Bs, e3, rnI, nblt, rn0, rnC, rnE, rnR, rnB, putAll, Nat.reduceSub, Nat.sub_zero, Nat.not_lt_zero, Nat.zero_sub, Nat.sub_self, rn_I, rn_B]
          refine ⟨k + 1, by omega, by omega, ?_⟩
          have q2 := mpQ_ge hk1
          simp only [↓wt, wu, wk0, wk1, wk2, wk3, wkf, Nat.reduceAdd, Nat.reduceEqDiff, Nat.reduceLeDiff, Nat.reduceLT, Nat.reduceMul, Int.reduceLE, Int.reduceLT, Int.reduceEq, Int.reduceNe, wk4, laidS, keepS, q2, MpO, Bs, e3, underL_K]
          exact under_f.mpr fun a ha => by rw [List.mem_singleton.1 ha]; exact .p _ _ _ _ (by decide)
      · exfalso; omega
    · have hk2 : k = m.e.length := by omega
      subst hk2
      have q2 := mpQ_ge hkl
      simp only [↓wt, wu, wk0, wk1, wk2, wk3, Nat.reduceAdd, Nat.reduceEqDiff, Nat.reduceLeDiff, Nat.reduceLT, Nat.reduceMul, Int.reduceLE, Int.reduceLT, Int.reduceEq, Int.reduceNe, wk4, laidS, keepS, q2, MpO, Bs]
      repeat' (first | (refine r_casesD (fun hp hb => ?_) (fun hp hb => ?_) <;> simp only [↓wt, wu, wk0, wk1, wk2, wk3, Nat.reduceAdd, Nat.reduceEqDiff, Nat.reduceLeDiff, Nat.reduceLT, Nat.reduceMul, Int.reduceLE, Int.reduceLT, Int.reduceEq, Int.reduceNe, wk4, laidS, keepS, hb]) | (refine r_casesN (fun hp hb => ?_) (fun hp hb => ?_) <;> simp only [↓wt, wu, wk0, wk1, wk2, wk3, Nat.reduceAdd, Nat.reduceEqDiff, Nat.reduceLeDiff, Nat.reduceLT, Nat.reduceMul, Int.reduceLE, Int.reduceLT, Int.reduceEq, Int.reduceNe, wk4, laidS, keepS, hb]) | (refine r_casesM (fun hp hb => ?_) (fun hp hb => ?_) <;> simp only [↓wt, wu, wk0, wk1, wk2, wk3, Nat.reduceAdd, Nat.reduceEqDiff, Nat.reduceLeDiff, Nat.reduceLT, Nat.reduceMul, Int.reduceLE, Int.reduceLT, Int.reduceEq, Int.reduceNe, wk4, laidS, keepS, hb]) | (refine r_casesB (fun hp hb => ?_) (fun hp hb => ?_) <;> simp only [↓wt, wu, wk0, wk1, wk2, wk3, Nat.reduceAdd, Nat.reduceEqDiff, Nat.reduceLeDiff, Nat.reduceLT, Nat.reduceMul, Int.reduceLE, Int.reduceLT, Int.reduceEq, Int.reduceNe, wk4, laidS, keepS, hb]) | (refine r_gcasesD (fun hp hb => ?_) (fun hp hb => ?_) <;> simp only [↓wt, wu, wk0, wk1, wk2, wk3, Nat.reduceAdd, Nat.reduceEqDiff, Nat.reduceLeDiff, Nat.reduceLT, Nat.reduceMul, Int.reduceLE, Int.reduceLT, Int.reduceEq, Int.reduceNe, wk4, laidS, keepS, hb]) | (refine r_gcasesN (fun hp hb => ?_) (fun hp hb => ?_) <;> simp only [↓wt, wu, wk0, wk1, wk2, wk3, Nat.reduceAdd, Nat.reduceEqDiff, Nat.reduceLeDiff, Nat.reduceLT, Nat.reduceMul, Int.reduceLE, Int.reduceLT, Int.reduceEq, Int.reduceNe, wk4, laidS, keepS, hb]) | (refine r_gcasesM (fun hp hb => ?_) (fun hp hb => ?_) <;> simp only [↓wt, wu, wk0, wk1, wk2, wk3, Nat.reduceAdd, Nat.reduceEqDiff, Nat.reduceLeDiff, Nat.reduceLT, Nat.reduceMul, Int.reduceLE, Int.reduceLT, Int.reduceEq, Int.reduceNe, wk4, laidS, keepS, hb]) | (refine r_gcasesB (fun hp hb => ?_) (fun hp hb => ?_) <;> simp only [↓wt, wu, wk0, wk1, wk2, wk3, Nat.reduceAdd, Nat.reduceEqDiff, Nat.reduceLeDiff, Nat.reduceLT, Nat.reduceMul, Int.reduceLE, Int.reduceLT, Int.reduceEq, Int.reduceNe, wk4, laidS, keepS, hb]) | ((with_reducible refine And.intro ?_ ?_); omega) | fail)
      · exfalso; omega
      · simp only [↓wt, wu, wk0, wk1, wk2, wk3, Nat.reduceAdd, Nat.reduceEqDiff, Nat.reduceLeDiff, Nat.reduceLT, Nat.reduceMul, Int.reduceLE, Int.reduceLT, Int.reduceEq, Int.reduceNe, wk4, laidS, keepS, Bs, Try.results11]
        exact exp_own rfl (by simp) (pureB _)
end Go.Ab
