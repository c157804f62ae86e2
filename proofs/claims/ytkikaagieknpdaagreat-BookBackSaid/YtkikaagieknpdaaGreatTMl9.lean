/- Mail: the reference's numbers, and what it puts. Mail: the reference's .. -/
import Derived.Test.YtkikaagieknpdaaGreatTMl2
import Derived.Test.YtkikaagieknpdaaGreatTNb5
import Derived.Test.YtkikaagieknpdaaGreatTBk15
import Derived.Test.YtkikaagieknpdaaGreatAd1
import Derived.Test.YtkikaagieknpdaaGreatAbG7
set_option linter.unusedSimpArgs false
set_option linter.unusedVariables false
set_option linter.constructorNameAsVariable false
set_option maxRecDepth 100000
open Nat (reduceAdd reduceMul reduceEqDiff reduceLeDiff)
open Int (reduceLE reduceLT reduceEq reduceNe)
namespace Go.Ab
open Go Go.Proofs Go.RowKit
set_option maxHeartbeats 2000000 in
theorem mrnums_call (b : List UInt8) (ns : List Int) (hl : b.length + 10 * ns.length ≤ 1000000000) : PCall Tryz.prog 37 [Bs b, .l 1 (ns.map encI)] (Bs (b ++ encN ns)) := by
 refine pcall_body tabOk Tryz.func37 rfl rfl (by rw [Tryz.ntmps37]; simp) ?_
 simp only [Tryz.ntmps37, Bs]
 simp only [↓wt, wz, reduceAdd, reduceMul, reduceEqDiff, reduceLeDiff, Nat.reduceLT, reduceLE, reduceLT, reduceEq, reduceNe]
 refine loop_ruleC tabOk [1] (fun k : Nat => [(0, Bs (b ++ encN (ns.take k))), (5, .c (.int .i64 k))]) (fun k => k ≤ ns.length) (fun k => ns.length - k) 0 (by omega) ?_ ?_
 · simp only [↓wt, wz, wkf, reduceAdd, reduceMul, reduceEqDiff, reduceLeDiff, Nat.reduceLT, reduceLE, reduceLT, reduceEq, reduceNe, Bs, encN, underL_I, List.take_zero, List.append_nil]
   try trivial
 · intro k h1
   have e3 := wi_succ (k := k) (by omega)
   have h2 := encNI_len (l := ns) (k := k)
   simp only [↓wt, wz, reduceAdd, reduceMul, reduceEqDiff, reduceLeDiff, Nat.reduceLT, reduceLE, reduceLT, reduceEq, reduceNe, Bs]
   repeat' (first | ((first | refine r_casesD (fun hp hb => ?_) (fun hp hb => ?_) | refine r_casesN (fun hp hb => ?_) (fun hp hb => ?_) | refine r_casesM (fun hp hb => ?_) (fun hp hb => ?_) | refine r_casesB (fun hp hb => ?_) (fun hp hb => ?_) | refine r_gcasesD (fun hp hb => ?_) (fun hp hb => ?_) | refine r_gcasesN (fun hp hb => ?_) (fun hp hb => ?_) | refine r_gcasesM (fun hp hb => ?_) (fun hp hb => ?_) | refine r_gcasesB (fun hp hb => ?_) (fun hp hb => ?_)) <;> simp only [↓wt, wz, reduceAdd, reduceMul, reduceEqDiff, reduceLeDiff, Nat.reduceLT, reduceLE, reduceLT, reduceEq, reduceNe, hb]) | ((with_reducible refine And.intro ?_ ?_); omega) | fail)
   · have hkl : k < ns.length := by omega
     simp only [↓wt, wz, reduceAdd, reduceMul, reduceEqDiff, reduceLeDiff, Nat.reduceLT, reduceLE, reduceLT, reduceEq, reduceNe, elem_I, uNat_eq]
     repeat (refine And.intro (by omega) ?_)
     refine icall_drop [] (nrput_call (b ++ encN (ns.take k)) (uNat (ns.getD k 0)) (by rw [List.length_append]; omega) (uNat_lt _)).frz ⟨arg_l (pureB _), arg_c, trivial⟩ under_B ?_
     simp only [↓wt, wz, reduceAdd, reduceMul, reduceEqDiff, reduceLeDiff, Nat.reduceLT, reduceLE, reduceLT, reduceEq, reduceNe, e3, Bs, Cell]
     refine ⟨k + 1, by omega, by omega, ?_⟩
     simp only [↓wt, wz, wkf, reduceAdd, reduceMul, reduceEqDiff, reduceLeDiff, Nat.reduceLT, reduceLE, reduceLT, reduceEq, reduceNe, Bs, e3, underL_I, takeI_snoc, hkl, List.append_assoc]
     try trivial
   · have hk2 : k = ns.length := by omega
     subst hk2
     simp only [↓wt, wz, reduceAdd, reduceMul, reduceEqDiff, reduceLeDiff, Nat.reduceLT, reduceLE, reduceLT, reduceEq, reduceNe, Bs, List.take_length, Tryz.results37]
     exact exp_self (.l _ _ (pureB _))
end Go.Ab
namespace Go.Ab
open Go Go.Proofs Go.RowKit
noncomputable def someT (n : Nat) (b : List UInt8) : List Int × List UInt8 × Bool := if (manyL (num B62) n b).1.length = n then ((manyL (num B62) n b).1, (manyL (num B62) n b).2, true) else ([], [], false)
end Go.Ab
namespace Go.Ab
open Go Go.Proofs Go.RowKit
theorem b62_le : B62 ≤ M63 := by unfold B62 M63; decide
theorem some_put (xs : List Int) (r : List UInt8) (h : ∀ v ∈ xs, 0 ≤ v ∧ v < 4611686018427387904) : someT xs.length (encN xs ++ r) = (xs, r, true) := by
 rw [someT, many_put b62_le xs r fun v hv => ⟨(h v hv).1, (h v hv).2⟩, if_pos rfl]
def audT (a : AudD) : List Int := if NoneA a then [] else triL a a.told.length ++ [flagI a.mv]
def tl7 (k : BookD) : List UInt8 := encN (audT k.a)
def midL (k : BookD) : List Int := [k.k] ++ notesL k.n ++ [k.a.y, k.a.p]
def tl6 (k : BookD) : List UInt8 := encN (midL k) ++ tl7 k
def tl5 (k : BookD) : List UInt8 := encN (outsL k.o) ++ tl6 k
def tl4 (k : BookD) : List UInt8 := encN [(k.o.length : Int)] ++ tl5 k
def tl3 (k : BookD) : List UInt8 := encN (lineL k.l) ++ tl4 k
def tl2 (k : BookD) : List UInt8 := encN [(k.l.length : Int)] ++ tl3 k
def tl1 (k : BookD) : List UInt8 := encN (numsB k.r) ++ tl2 k
theorem tl0 (k : BookD) : encBk k = encN [k.ck] ++ tl1 k := by
 simp only [encBk, numsK, tl1, tl2, tl3, tl4, tl5, tl6, tl7, midL, audL, audT, encN_append, List.append_assoc]
theorem lineL_len (l : List ReqD) : (lineL l).length = 2 * l.length := flat_len _ 2 (fun _ => rfl) l
theorem outsL_len (l : List OutD) : (outsL l).length = 2 * l.length := flat_len _ 2 (fun _ => rfl) l
theorem notesL_len (l : List NoteD) : (notesL l).length = 7 * l.length := flat_len _ 7 (fun _ => rfl) l
def Nn (v : Int) : Prop := 0 ≤ v ∧ v < 4611686018427387904
theorem may_line {c : Conf} {who : Int} {k : BookD} (h : MayK c who k) : ∀ x ∈ k.l, x.w = who ∧ Nn x.t ∧ Nn x.a := fun x hx => by
 obtain ⟨i, hi, rfl⟩ := getD_mem (d := default) hx
 obtain ⟨⟨⟨g1, g2⟩, g3⟩, _⟩ := h.2.2.2.1.2.2 i hi
 unfold MaySt reqAt at g1
 unfold Amt reqAt at g3
 unfold reqAt at g2
 exact ⟨g2, ⟨by omega, by omega⟩, ⟨by omega, by omega⟩⟩
theorem t1 {c : Conf} {who : Int} {k : BookD} (h : MayK c who k) : someT 1 (encBk k) = ([k.ck], tl1 k, true) := by
 rw [tl0]
 exact some_put [k.ck] _ fun v hv => by rw [List.mem_singleton.1 hv]; have := h.2.1; omega
theorem t2 {c : Conf} {who : Int} {k : BookD} (h : MayK c who k) : takeB M63 c (tl1 k) = (k.r, tl2 k, true) := books_put (Nat.le_refl M63) (by decide) h.2.2.1
theorem may_len {c : Conf} {who : Int} {k : BookD} (h : MayK c who k) : MayC c ∧ k.l.length ≤ 8 ∧ (k.l.length : Int) ≤ c.q ∧ k.o.length ≤ 9 ∧ (k.o.length : Int) ≤ c.q + 1 ∧ (k.n.length : Int) = c.n := by
 have hm := h.2.2.1.1
 have h1 := h.2.2.2.1.2.1
 have h2 := h.2.2.2.2.1
 have h3 := h.2.2.2.2.2.2.2.2.1.2.1
 have hm' := hm
 unfold MayC at hm'
 exact ⟨hm, by omega, h1, by omega, h2, h3⟩
theorem t3 {c : Conf} {who : Int} {k : BookD} (h : MayK c who k) : someT 1 (tl2 k) = ([(k.l.length : Int)], tl3 k, true) :=
 some_put [(k.l.length : Int)] _ fun v hv => by rw [List.mem_singleton.1 hv]; have := may_len h; omega
theorem t4 {c : Conf} {who : Int} {k : BookD} (h : MayK c who k) : someT (2 * k.l.length) (tl3 k) = (lineL k.l, tl4 k, true) := by
 rw [← lineL_len]
 refine some_put (lineL k.l) _ fun v hv => ?_
 obtain ⟨x, hx, hv⟩ := List.mem_flatMap.1 hv
 have := may_line h x hx
 unfold Nn at this
 simp only [List.mem_cons, List.not_mem_nil, or_false] at hv
 rcases hv with rfl | rfl <;> omega
end Go.Ab
namespace Go.Ab
open Go Go.Proofs Go.RowKit
end Go.Ab
namespace Go.Ab
open Go Go.Proofs Go.RowKit
def boundK (c : Conf) : Int := if MayC c then 16 * (c.n * (c.n + 12) + 6 * c.q + 20) else 0
theorem bound_mul {n : Int} (h1 : 1 ≤ n) (h2 : n ≤ 16) : 13 ≤ n * (n + 12) ∧ n * (n + 12) ≤ 448 := by
 obtain ⟨m, rfl⟩ : ∃ m : Nat, n = m := ⟨n.toNat, by omega⟩
 have : m = 1 ∨ m = 2 ∨ m = 3 ∨ m = 4 ∨ m = 5 ∨ m = 6 ∨ m = 7 ∨ m = 8 ∨ m = 9 ∨ m = 10 ∨ m = 11 ∨ m = 12 ∨ m = 13 ∨ m = 14 ∨ m = 15 ∨ m = 16 := by omega
 rcases this with rfl | rfl | rfl | rfl | rfl | rfl | rfl | rfl | rfl | rfl | rfl | rfl | rfl | rfl | rfl | rfl <;> decide
theorem bkbound_call (c : Conf) : PCall Tryz.prog 15 [ConfA c] (.c (.int .i64 (boundK c))) := by
 refine pcall_body tabOk Tryz.func15 rfl rfl (by rw [Tryz.ntmps15]; simp) ?_
 simp only [Tryz.ntmps15, ConfA]
 simp only [↓wt, wz, reduceAdd, reduceMul, reduceEqDiff, reduceLeDiff, Nat.reduceLT, reduceLE, reduceLT, reduceEq, reduceNe]
 refine icall_drop [] (rtmay_call c) ⟨arg_conf', trivial⟩ (.c _) ?_
 cases hm : decide (MayC c)
 · simp only [↓wt, wz, reduceAdd, reduceMul, reduceEqDiff, reduceLeDiff, Nat.reduceLT, reduceLE, reduceLT, reduceEq, reduceNe, hm, Tryz.results15]
   rw [boundK, if_neg (of_decide_eq_false hm)]
   exact exp_c
 · have h := of_decide_eq_true hm
   have hb := bound_mul h.1.1 h.1.2
   have hq := h.2.1
   have e1 : IntKind.i64.wrap (c.n + 12) = c.n + 12 := int_add (by have := h.1; omega) (by have := h.1; omega)
   have e2 : IntKind.i64.wrap (c.n * (c.n + 12)) = c.n * (c.n + 12) := wrap_i64 (by omega) (by omega)
   have e3 : IntKind.i64.wrap (6 * c.q) = 6 * c.q := wrap_i64 (by omega) (by omega)
   have e4 : IntKind.i64.wrap (c.n * (c.n + 12) + 6 * c.q) = c.n * (c.n + 12) + 6 * c.q := wrap_i64 (by omega) (by omega)
   have e5 : IntKind.i64.wrap (c.n * (c.n + 12) + 6 * c.q + 20) = c.n * (c.n + 12) + 6 * c.q + 20 := wrap_i64 (by omega) (by omega)
   have e6 : IntKind.i64.wrap (16 * (c.n * (c.n + 12) + 6 * c.q + 20)) = 16 * (c.n * (c.n + 12) + 6 * c.q + 20) := wrap_i64 (by omega) (by omega)
   simp only [↓wt, wz, reduceAdd, reduceMul, reduceEqDiff, reduceLeDiff, Nat.reduceLT, reduceLE, reduceLT, reduceEq, reduceNe, hm, e1, e2, e3, e4, e5, e6, Tryz.results15]
   rw [boundK, if_pos h]
   exact exp_c
theorem rbkbound_call (c : Conf) : PCall Tryz.prog 16 [ConfA c] (.c (.int .i64 (boundK c))) := by
 refine pcall_body tabOk Tryz.func16 rfl rfl (by rw [Tryz.ntmps16]; simp) ?_
 simp only [Tryz.ntmps16, ConfA]
 simp only [↓wt, wz, reduceAdd, reduceMul, reduceEqDiff, reduceLeDiff, Nat.reduceLT, reduceLE, reduceLT, reduceEq, reduceNe]
 refine icall_drop [] (rrtmay_call c) ⟨arg_conf', trivial⟩ (.c _) ?_
 cases hm : decide (MayC c)
 · simp only [↓wt, wz, reduceAdd, reduceMul, reduceEqDiff, reduceLeDiff, Nat.reduceLT, reduceLE, reduceLT, reduceEq, reduceNe, hm, Tryz.results16]
   rw [boundK, if_neg (of_decide_eq_false hm)]
   exact exp_c
 · have h := of_decide_eq_true hm
   have hb := bound_mul h.1.1 h.1.2
   have hq := h.2.1
   have e1 : IntKind.i64.wrap (c.n + 12) = c.n + 12 := int_add (by have := h.1; omega) (by have := h.1; omega)
   have e2 : IntKind.i64.wrap (c.n * (c.n + 12)) = c.n * (c.n + 12) := wrap_i64 (by omega) (by omega)
   have e3 : IntKind.i64.wrap (6 * c.q) = 6 * c.q := wrap_i64 (by omega) (by omega)
   have e4 : IntKind.i64.wrap (c.n * (c.n + 12) + 6 * c.q) = c.n * (c.n + 12) + 6 * c.q := wrap_i64 (by omega) (by omega)
   have e5 : IntKind.i64.wrap (c.n * (c.n + 12) + 6 * c.q + 20) = c.n * (c.n + 12) + 6 * c.q + 20 := wrap_i64 (by omega) (by omega)
   have e6 : IntKind.i64.wrap (16 * (c.n * (c.n + 12) + 6 * c.q + 20)) = 16 * (c.n * (c.n + 12) + 6 * c.q + 20) := wrap_i64 (by omega) (by omega)
   simp only [↓wt, wz, reduceAdd, reduceMul, reduceEqDiff, reduceLeDiff, Nat.reduceLT, reduceLE, reduceLT, reduceEq, reduceNe, hm, e1, e2, e3, e4, e5, e6, Tryz.results16]
   rw [boundK, if_pos h]
   exact exp_c
end Go.Ab
namespace Go.Ab
open Go Go.Proofs Go.RowKit
end Go.Ab
