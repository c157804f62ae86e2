/- Rights: put, taken, moved: by the document. Rights: put, taken, moved: by .. -/
import Derived.Test.YtkikaagieknpdaaGreatTRt2
import Derived.Test.YtkikaagieknpdaaGreatAbG6
import Derived.Test.YtkikaagieknpdaaGreatTGr1
import Derived.Test.YtkikaagieknpdaaGreatTNb5
import Derived.Test.YtkikaagieknpdaaGreatAbG7
set_option linter.unusedSimpArgs false
set_option linter.unusedVariables false
set_option linter.constructorNameAsVariable false
set_option maxRecDepth 100000
open Nat (reduceAdd reduceMul reduceEqDiff reduceLeDiff)
open Int (reduceLE reduceLT reduceEq reduceNe)
namespace Go.Ab
open Go Go.Proofs Go.RowKit
end Go.Ab
namespace Go.Ab
open Go Go.Proofs Go.RowKit
theorem bok_conf {M : Mem} {id : Nat} {c : Conf} : ∀ x ∈ [AV.g [.c (.int .i64 c.n), .c (.int .i64 c.q), .c (.int .i64 c.r), .c (.int .i64 c.p), .c (.int .i64 c.k), .c (.int .i64 c.c)]], ∀ d ∈ x.cells, FOk M id d := fun x hx d hd => by
 simp only [List.mem_singleton] at hx
 subst hx
 simp only [AV.cells, List.mem_cons, List.not_mem_nil, or_false] at hd
 rcases hd with rfl | rfl | rfl | rfl | rfl | rfl <;> trivial
end Go.Ab
namespace Go.Ab
open Go Go.Proofs Go.RowKit
theorem exp_nilL {M : Mem} {sz : Nat} : Exp M (.c (.slice none 0 0)) (.l sz []) := exp_l trivial okR_nil
theorem cloneB_call (l : List UInt8) (hl : l.length ≤ 1000000000) : PCall Tryz.prog 72 [Bs l] (Bs l) := by
 refine pcall_body tabOk Tryz.func72 rfl rfl (by rw [Tryz.ntmps72]; simp) ?_
 simp only [Tryz.ntmps72, Bs]
 simp only [↓wt, wz, reduceAdd, reduceMul, reduceEqDiff, reduceLeDiff, Nat.reduceLT, reduceLE, reduceLT, reduceEq, reduceNe, nilBinK]
 intro b hb
 cases b
 · simp only [↓wt, wz, reduceAdd, reduceMul, reduceEqDiff, reduceLeDiff, Nat.reduceLT, reduceLE, reduceLT, reduceEq, reduceNe, Tryz.results72]
   repeat (refine And.intro (by omega) ?_)
   exact exp_slB rfl rfl rfl
 · simp only [↓wt, wz, reduceAdd, reduceMul, reduceEqDiff, reduceLeDiff, Nat.reduceLT, reduceLE, reduceLT, reduceEq, reduceNe, Tryz.results72]
   rw [hb rfl]
   exact exp_nilL
def uNat (v : Int) : Nat := (v % 18446744073709551616).toNat
theorem uNat_eq (v : Int) : IntKind.u64.wrap v = ((uNat v : Nat) : Int) := by rw [IntKind.wrap_u64, uNat]; omega
theorem uNat_lt (v : Int) : uNat v < 18446744073709551616 := by unfold uNat; omega
def encN : List Int → List UInt8
 | [] => []
 | v :: r => putL (uNat v) ++ encN r
theorem encN_append : ∀ a b : List Int, encN (a ++ b) = encN a ++ encN b
 | [], b => rfl
 | v :: a, b => by simp only [List.cons_append, encN, encN_append a b, List.append_assoc]
theorem encN_len : ∀ a : List Int, (encN a).length ≤ 10 * a.length
 | [] => by simp [encN]
 | v :: a => by
  have := encN_len a
  have := putL_len10 (uNat_lt v)
  simp only [encN, List.length_append, List.length_cons]
  omega
def numsR (r : RowD) : List Int := r.i :: r.u :: r.o
def numsB : List RowD → List Int
 | [] => []
 | r :: l => numsR r ++ numsB l
theorem numsB_append : ∀ a b : List RowD, numsB (a ++ b) = numsB a ++ numsB b
 | [], b => rfl
 | v :: a, b => by simp only [List.cons_append, numsB, numsB_append a b, List.append_assoc]
theorem take_snoc {l : List RowD} {k : Nat} (h : k < l.length) : l.take (k + 1) = l.take k ++ [rowAt l k] := by
 rw [List.take_add_one, List.getElem?_eq_getElem h, rowAt, List.getD_eq_getElem?_getD, List.getElem?_eq_getElem h]; rfl
theorem numsB_snoc {l : List RowD} {k : Nat} (h : k < l.length) : numsB (l.take (k + 1)) = numsB (l.take k) ++ numsR (rowAt l k) := by
 rw [take_snoc h, numsB_append]; simp [numsB]
theorem numsB_part {l : List RowD} {k : Nat} : (numsB (l.take k)).length ≤ (numsB l).length := by
 have : numsB l = numsB (l.take k) ++ numsB (l.drop k) := by rw [← numsB_append, List.take_append_drop]
 rw [this, List.length_append]; omega
theorem numsR_len (r : RowD) : (numsR r).length = r.o.length + 2 := by simp [numsR]
theorem takeI_snoc {l : List Int} {k : Nat} (h : k < l.length) : encN (l.take (k + 1)) = encN (l.take k) ++ putL (uNat (l.getD k 0)) := by
 rw [List.take_add_one, List.getElem?_eq_getElem h, List.getD_eq_getElem?_getD, List.getElem?_eq_getElem h, Option.toList_some, encN_append]
 simp [encN]
theorem encNI_len {l : List Int} {k : Nat} : (encN (l.take k)).length ≤ 10 * l.length := by
 have := encN_len (l.take k)
 have : (l.take k).length ≤ l.length := by rw [List.length_take]; omega
 omega
set_option maxHeartbeats 2000000 in
theorem pput_call (b : List UInt8) (l : List RowD) (hb : b.length + 10 * (numsB l).length ≤ 1000000000) (hl : l.length < 1000000000) : PCall Tryz.prog 33 [Bs b, BooksV l] (Bs (b ++ encN (numsB l))) := by
 refine pcall_body tabOk Tryz.func33 rfl rfl (by rw [Tryz.ntmps33]; simp) ?_
 simp only [Tryz.ntmps33, Bs, BooksV]
 simp only [↓wt, wz, reduceAdd, reduceMul, reduceEqDiff, reduceLeDiff, Nat.reduceLT, reduceLE, reduceLT, reduceEq, reduceNe]
 refine icall_drop [] (cloneB_call b (by omega)) ⟨arg_l (pureB _), trivial⟩ under_B ?_
 simp only [↓wt, wz, reduceAdd, reduceMul, reduceEqDiff, reduceLeDiff, Nat.reduceLT, reduceLE, reduceLT, reduceEq, reduceNe, Bs]
 refine loop_ruleC tabOk [12, 13] (fun k : Nat => [(5, Bs (b ++ encN (numsB (l.take k)))), (14, .c (.int .i64 k))]) (fun k => k ≤ l.length) (fun k => l.length - k) 0 (by omega) ?_ ?_
 · simp only [↓wt, wz, wkf, reduceAdd, reduceMul, reduceEqDiff, reduceLeDiff, Nat.reduceLT, reduceLE, reduceLT, reduceEq, reduceNe, Bs, numsB, encN, underL_R, List.take_zero, List.append_nil]
   try trivial
 · intro k hk
   simp only [↓wt, wz, reduceAdd, reduceMul, reduceEqDiff, reduceLeDiff, Nat.reduceLT, reduceLE, reduceLT, reduceEq, reduceNe, Bs]
   repeat' (first | ((first | refine r_casesD (fun hp hb => ?_) (fun hp hb => ?_) | refine r_casesN (fun hp hb => ?_) (fun hp hb => ?_) | refine r_casesM (fun hp hb => ?_) (fun hp hb => ?_) | refine r_casesB (fun hp hb => ?_) (fun hp hb => ?_) | refine r_gcasesD (fun hp hb => ?_) (fun hp hb => ?_) | refine r_gcasesN (fun hp hb => ?_) (fun hp hb => ?_) | refine r_gcasesM (fun hp hb => ?_) (fun hp hb => ?_) | refine r_gcasesB (fun hp hb => ?_) (fun hp hb => ?_)) <;> simp only [↓wt, wz, reduceAdd, reduceMul, reduceEqDiff, reduceLeDiff, Nat.reduceLT, reduceLE, reduceLT, reduceEq, reduceNe, Bs, hb]) | ((with_reducible refine And.intro ?_ ?_); omega) | fail)
   · have hkl : k < l.length := by omega
     have e3 := wi_succ (k := k) (by omega)
     have h1 := numsB_part (l := l) (k := k + 1)
     have h2 := encN_len (numsB (l.take k))
     rw [numsB_snoc hkl, List.length_append, numsR_len] at h1
     simp only [↓wt, wz, reduceAdd, reduceMul, reduceEqDiff, reduceLeDiff, Nat.reduceLT, reduceLE, reduceLT, reduceEq, reduceNe, elem_R, RowV_eq, e3, Bs]
     repeat (refine And.intro (by omega) ?_)
     refine icall_sink 1 (by simp only [↓wt, wz, reduceAdd, reduceMul, reduceEqDiff, reduceLeDiff, Nat.reduceLT, reduceLE, reduceLT, reduceEq, reduceNe, AOk, underL_R]; (try (repeat' (first | (exact fun _ => by simp only [pureL_eq, underL_cons, underL_nil, AV.cells, under_l, under_c, under_g, under_e, under_f, underL_B, underL_I, underL_Bs, under_Bs, List.mem_cons, List.not_mem_nil, or_false, forall_eq_or_imp, forall_eq, and_self, and_true, true_and, underL_R]) | ((with_reducible refine And.intro ?_ ?_)) | (intro _) | omega | (simp only [pureL_eq, underL_cons, underL_nil, AV.cells, under_l, under_c, under_g, under_e, under_f, underL_B, underL_I, underL_Bs, under_Bs, List.mem_cons, List.not_mem_nil, or_false, forall_eq_or_imp, forall_eq, and_self, and_true, true_and, underL_R])))); done) (by simp only [↓wt, wz, reduceAdd, reduceMul, reduceEqDiff, reduceLeDiff, Nat.reduceLT, reduceLE, reduceLT, reduceEq, reduceNe, AOk, underL_R]; (try (repeat' (first | (exact fun _ => by simp only [pureL_eq, underL_cons, underL_nil, AV.cells, under_l, under_c, under_g, under_e, under_f, underL_B, underL_I, underL_Bs, under_Bs, List.mem_cons, List.not_mem_nil, or_false, forall_eq_or_imp, forall_eq, and_self, and_true, true_and, underL_R]) | ((with_reducible refine And.intro ?_ ?_)) | (intro _) | omega | (simp only [pureL_eq, underL_cons, underL_nil, AV.cells, under_l, under_c, under_g, under_e, under_f, underL_B, underL_I, underL_Bs, under_Bs, List.mem_cons, List.not_mem_nil, or_false, forall_eq_or_imp, forall_eq, and_self, and_true, true_and, underL_R])))); done) ?_; simp only [↓wt, wz, reduceAdd, reduceMul, reduceEqDiff, reduceLeDiff, Nat.reduceLT, reduceLE, reduceLT, reduceEq, reduceNe, AOk, underL_R]
     have m2 := concatI_call [[(rowAt l k).i, (rowAt l k).u], (rowAt l k).o] (by simp) (by simp only [List.flatten_cons, List.flatten_nil, List.length_append, List.length_cons, List.length_nil]; omega)
     have e4 : [[(rowAt l k).i, (rowAt l k).u], (rowAt l k).o].flatten = numsR (rowAt l k) := by simp [numsR]
     rw [e4] at m2
     have hr := numsR_len (rowAt l k)
     refine icall_drop [2] m2 ⟨arg_own (by simp) rfl rfl (by rw [pureL_eq]; simp only [↓wt, wz, wkf, reduceAdd, reduceMul, reduceEqDiff, reduceLeDiff, Nat.reduceLT, reduceLE, reduceLT, reduceEq, reduceNe, cells_Is, under_Is]), trivial⟩ (.l _ _ (pureI _)) ?_
     simp only [↓wt, wz, reduceAdd, reduceMul, reduceEqDiff, reduceLeDiff, Nat.reduceLT, reduceLE, reduceLT, reduceEq, reduceNe, Is]
     generalize hns : numsR (rowAt l k) = ns
     rw [hns] at hr
     have hb9 : (b ++ encN (numsB (l.take k))).length + 10 * ns.length ≤ 1000000000 := by rw [List.length_append]; omega
     generalize hbb : b ++ encN (numsB (l.take k)) = bb
     rw [hbb] at hb9
     refine loop_ruleC tabOk [12, 13, 14, 26, 27] (fun j : Nat => [(5, Bs (bb ++ encN (ns.take j))), (28, .c (.int .i64 j))]) (fun j => j ≤ ns.length) (fun j => ns.length - j) 0 (by omega) ?_ ?_
     · simp only [↓wt, wz, wkf, reduceAdd, reduceMul, reduceEqDiff, reduceLeDiff, Nat.reduceLT, reduceLE, reduceLT, reduceEq, reduceNe, Bs, encN, underL_R, underL_I, List.take_zero, List.append_nil]
       try trivial
     · intro j hj
       simp only [↓wt, wz, reduceAdd, reduceMul, reduceEqDiff, reduceLeDiff, Nat.reduceLT, reduceLE, reduceLT, reduceEq, reduceNe, Bs]
       repeat' (first | ((first | refine r_casesD (fun hp hb => ?_) (fun hp hb => ?_) | refine r_casesN (fun hp hb => ?_) (fun hp hb => ?_) | refine r_casesM (fun hp hb => ?_) (fun hp hb => ?_) | refine r_casesB (fun hp hb => ?_) (fun hp hb => ?_) | refine r_gcasesD (fun hp hb => ?_) (fun hp hb => ?_) | refine r_gcasesN (fun hp hb => ?_) (fun hp hb => ?_) | refine r_gcasesM (fun hp hb => ?_) (fun hp hb => ?_) | refine r_gcasesB (fun hp hb => ?_) (fun hp hb => ?_)) <;> simp only [↓wt, wz, reduceAdd, reduceMul, reduceEqDiff, reduceLeDiff, Nat.reduceLT, reduceLE, reduceLT, reduceEq, reduceNe, Bs, hb]) | ((with_reducible refine And.intro ?_ ?_); omega) | fail)
       · have hjl : j < ns.length := by omega
         have e5 := wi_succ (k := j) (by omega)
         have h3 := encNI_len (l := ns) (k := j)
         simp only [↓wt, wz, reduceAdd, reduceMul, reduceEqDiff, reduceLeDiff, Nat.reduceLT, reduceLE, reduceLT, reduceEq, reduceNe, elem_I, e5, Bs, uNat_eq]
         repeat (refine And.intro (by omega) ?_)
         refine icall_drop [] (nput_call (bb ++ encN (ns.take j)) (uNat (ns.getD j 0)) (by rw [List.length_append]; omega) (uNat_lt _)).frz ⟨arg_l (pureB _), arg_c, trivial⟩ under_B ?_
         simp only [↓wt, wz, reduceAdd, reduceMul, reduceEqDiff, reduceLeDiff, Nat.reduceLT, reduceLE, reduceLT, reduceEq, reduceNe, e5, Bs]
         refine ⟨j + 1, by omega, by omega, ?_⟩
         simp only [↓wt, wz, wkf, reduceAdd, reduceMul, reduceEqDiff, reduceLeDiff, Nat.reduceLT, reduceLE, reduceLT, reduceEq, reduceNe, Bs, underL_R, underL_I, e5, takeI_snoc, hjl, List.append_assoc]
         try trivial
       · have : j = ns.length := by omega
         subst this
         refine ⟨k + 1, by omega, by omega, ?_⟩
         have e6 : b ++ encN (numsB (l.take (k + 1))) = bb ++ encN (ns.take ns.length) := by rw [numsB_snoc hkl, encN_append, hns, ← List.append_assoc, hbb, List.take_length]
         simp only [↓wt, wz, wkf, reduceAdd, reduceMul, reduceEqDiff, reduceLeDiff, Nat.reduceLT, reduceLE, reduceLT, reduceEq, reduceNe, Bs, underL_R, e3, e6]
         try trivial
   · have : k = l.length := by omega
     subst this
     simp only [↓wt, wz, reduceAdd, reduceMul, reduceEqDiff, reduceLeDiff, Nat.reduceLT, reduceLE, reduceLT, reduceEq, reduceNe, Bs, List.take_length, Tryz.results33]
     exact exp_self (.l _ _ (pureB _))
set_option maxHeartbeats 2000000 in
theorem rpput_call (b : List UInt8) (l : List RowD) (hb : b.length + 10 * (numsB l).length ≤ 1000000000) (hl : l.length < 1000000000) : PCall Tryz.prog 38 [Bs b, BooksV l] (Bs (b ++ encN (numsB l))) := by
 refine pcall_body tabOk Tryz.func38 rfl rfl (by rw [Tryz.ntmps38]; simp) ?_
 simp only [Tryz.ntmps38, Bs, BooksV]
 simp only [↓wt, wz, reduceAdd, reduceMul, reduceEqDiff, reduceLeDiff, Nat.reduceLT, reduceLE, reduceLT, reduceEq, reduceNe]
 refine ⟨by omega, ?_⟩
 refine freeze_rule 0 [1, 5, 6] (by simp only [↓wt, wz, reduceAdd, reduceMul, reduceEqDiff, reduceLeDiff, Nat.reduceLT, reduceLE, reduceLT, reduceEq, reduceNe]; (try (repeat' (first | (exact fun _ => by simp only [pureL_eq, underL_cons, underL_nil, AV.cells, under_l, under_c, under_g, under_e, under_f, underL_B, underL_I, underL_Bs, under_Bs, List.mem_cons, List.not_mem_nil, or_false, forall_eq_or_imp, forall_eq, and_self, and_true, true_and]) | ((with_reducible refine And.intro ?_ ?_)) | (intro _) | omega | (simp only [pureL_eq, underL_cons, underL_nil, AV.cells, under_l, under_c, under_g, under_e, under_f, underL_B, underL_I, underL_Bs, under_Bs, List.mem_cons, List.not_mem_nil, or_false, forall_eq_or_imp, forall_eq, and_self, and_true, true_and])))); done) (by simp only [↓wt, wz, reduceAdd, reduceMul, reduceEqDiff, reduceLeDiff, Nat.reduceLT, reduceLE, reduceLT, reduceEq, reduceNe]; (try (repeat' (first | (exact fun _ => by simp only [pureL_eq, underL_cons, underL_nil, AV.cells, under_l, under_c, under_g, under_e, under_f, underL_B, underL_I, underL_Bs, under_Bs, List.mem_cons, List.not_mem_nil, or_false, forall_eq_or_imp, forall_eq, and_self, and_true, true_and]) | ((with_reducible refine And.intro ?_ ?_)) | (intro _) | omega | (simp only [pureL_eq, underL_cons, underL_nil, AV.cells, under_l, under_c, under_g, under_e, under_f, underL_B, underL_I, underL_Bs, under_Bs, List.mem_cons, List.not_mem_nil, or_false, forall_eq_or_imp, forall_eq, and_self, and_true, true_and])))); done) ?_; simp only [↓wt, wz, reduceAdd, reduceMul, reduceEqDiff, reduceLeDiff, Nat.reduceLT, reduceLE, reduceLT, reduceEq, reduceNe]
 refine loop_ruleC tabOk [1] (fun k : Nat => [(5, Bs (b ++ encN (numsB (l.take k)))), (6, .c (.int .i64 k))]) (fun k => k ≤ l.length) (fun k => l.length - k) 0 (by omega) ?_ ?_
 · simp only [↓wt, wz, wkf, reduceAdd, reduceMul, reduceEqDiff, reduceLeDiff, Nat.reduceLT, reduceLE, reduceLT, reduceEq, reduceNe, Bs, numsB, encN, underL_R, List.take_zero, List.append_nil, List.drop_zero]
   try trivial
 · intro k hk
   simp only [↓wt, wz, reduceAdd, reduceMul, reduceEqDiff, reduceLeDiff, Nat.reduceLT, reduceLE, reduceLT, reduceEq, reduceNe, Bs]
   repeat' (first | ((first | refine r_casesD (fun hp hb => ?_) (fun hp hb => ?_) | refine r_casesN (fun hp hb => ?_) (fun hp hb => ?_) | refine r_casesM (fun hp hb => ?_) (fun hp hb => ?_) | refine r_casesB (fun hp hb => ?_) (fun hp hb => ?_) | refine r_gcasesD (fun hp hb => ?_) (fun hp hb => ?_) | refine r_gcasesN (fun hp hb => ?_) (fun hp hb => ?_) | refine r_gcasesM (fun hp hb => ?_) (fun hp hb => ?_) | refine r_gcasesB (fun hp hb => ?_) (fun hp hb => ?_)) <;> simp only [↓wt, wz, reduceAdd, reduceMul, reduceEqDiff, reduceLeDiff, Nat.reduceLT, reduceLE, reduceLT, reduceEq, reduceNe, Bs, hb]) | ((with_reducible refine And.intro ?_ ?_); omega) | fail)
   · have hkl : k < l.length := by omega
     have e3 := wi_succ (k := k) (by omega)
     have h1 := numsB_part (l := l) (k := k + 1)
     have h2 := encN_len (numsB (l.take k))
     rw [numsB_snoc hkl, List.length_append, numsR_len] at h1
     have e7 : b ++ encN (numsB (l.take (k + 1))) = b ++ encN (numsB (l.take k)) ++ putL (uNat (rowAt l k).i) ++ putL (uNat (rowAt l k).u) ++ encN (rowAt l k).o := by
      rw [numsB_snoc hkl, encN_append]; simp only [numsR, encN, List.append_assoc]
     generalize hbb : b ++ encN (numsB (l.take k)) = bb at *
     have hb9 : bb.length + 10 * ((rowAt l k).o.length + 2) ≤ 1000000000 := by rw [← hbb, List.length_append]; omega
     simp only [↓wt, wz, reduceAdd, reduceMul, reduceEqDiff, reduceLeDiff, Nat.reduceLT, reduceLE, reduceLT, reduceEq, reduceNe, elem_R, RowV_eq, e3, Bs, uNat_eq]
     repeat (refine And.intro (by omega) ?_)
     refine icall_drop [] (nrput_call bb (uNat (rowAt l k).i) (by omega) (uNat_lt _)).frz ⟨arg_l (pureB _), arg_c, trivial⟩ under_B ?_
     have p1 := putL_len10 (uNat_lt (rowAt l k).i)
     have p2 := putL_len10 (uNat_lt (rowAt l k).u)
     simp only [↓wt, wz, reduceAdd, reduceMul, reduceEqDiff, reduceLeDiff, Nat.reduceLT, reduceLE, reduceLT, reduceEq, reduceNe, elem_R, RowV_eq, e3, Bs, uNat_eq]
     repeat (refine And.intro (by omega) ?_)
     refine icall_drop [] (nrput_call (bb ++ putL (uNat (rowAt l k).i)) (uNat (rowAt l k).u) (by rw [List.length_append]; omega) (uNat_lt _)).frz ⟨arg_l (pureB _), arg_c, trivial⟩ under_B ?_
     simp only [↓wt, wz, reduceAdd, reduceMul, reduceEqDiff, reduceLeDiff, Nat.reduceLT, reduceLE, reduceLT, reduceEq, reduceNe, elem_R, RowV_eq, e3, Bs, uNat_eq]
     generalize hcc : bb ++ putL (uNat (rowAt l k).i) ++ putL (uNat (rowAt l k).u) = cc at *
     have hc9 : cc.length + 10 * (rowAt l k).o.length ≤ 1000000000 := by rw [← hcc, List.length_append, List.length_append]; omega
     refine loop_ruleC tabOk [1, 6] (fun j : Nat => [(5, Bs (cc ++ encN ((rowAt l k).o.take j))), (7, .c (.int .i64 j))]) (fun j => j ≤ (rowAt l k).o.length) (fun j => (rowAt l k).o.length - j) 0 (by omega) ?_ ?_
     · simp only [↓wt, wz, wkf, reduceAdd, reduceMul, reduceEqDiff, reduceLeDiff, Nat.reduceLT, reduceLE, reduceLT, reduceEq, reduceNe, Bs, encN, underL_R, underL_I, List.take_zero, List.append_nil]
       try trivial
     · intro j hj
       simp only [↓wt, wz, reduceAdd, reduceMul, reduceEqDiff, reduceLeDiff, Nat.reduceLT, reduceLE, reduceLT, reduceEq, reduceNe, Bs, elem_R, RowV_eq]
       repeat (refine And.intro (by omega) ?_)
       repeat' (first | ((first | refine r_casesD (fun hp hb => ?_) (fun hp hb => ?_) | refine r_casesN (fun hp hb => ?_) (fun hp hb => ?_) | refine r_casesM (fun hp hb => ?_) (fun hp hb => ?_) | refine r_casesB (fun hp hb => ?_) (fun hp hb => ?_) | refine r_gcasesD (fun hp hb => ?_) (fun hp hb => ?_) | refine r_gcasesN (fun hp hb => ?_) (fun hp hb => ?_) | refine r_gcasesM (fun hp hb => ?_) (fun hp hb => ?_) | refine r_gcasesB (fun hp hb => ?_) (fun hp hb => ?_)) <;> simp only [↓wt, wz, reduceAdd, reduceMul, reduceEqDiff, reduceLeDiff, Nat.reduceLT, reduceLE, reduceLT, reduceEq, reduceNe, Bs, elem_R, RowV_eq, hb]) | ((with_reducible refine And.intro ?_ ?_); omega) | fail)
       · have hjl : j < (rowAt l k).o.length := by omega
         have e5 := wi_succ (k := j) (by omega)
         have h3 := encNI_len (l := (rowAt l k).o) (k := j)
         simp only [↓wt, wz, reduceAdd, reduceMul, reduceEqDiff, reduceLeDiff, Nat.reduceLT, reduceLE, reduceLT, reduceEq, reduceNe, elem_I, elem_R, RowV_eq, e5, Bs, uNat_eq]
         repeat (refine And.intro (by omega) ?_)
         refine icall_drop [] (nrput_call (cc ++ encN ((rowAt l k).o.take j)) (uNat ((rowAt l k).o.getD j 0)) (by rw [List.length_append]; omega) (uNat_lt _)).frz ⟨arg_l (pureB _), arg_c, trivial⟩ under_B ?_
         simp only [↓wt, wz, reduceAdd, reduceMul, reduceEqDiff, reduceLeDiff, Nat.reduceLT, reduceLE, reduceLT, reduceEq, reduceNe, e5, Bs]
         refine ⟨j + 1, by omega, by omega, ?_⟩
         simp only [↓wt, wz, wkf, reduceAdd, reduceMul, reduceEqDiff, reduceLeDiff, Nat.reduceLT, reduceLE, reduceLT, reduceEq, reduceNe, Bs, underL_R, underL_I, e5, takeI_snoc, hjl, List.append_assoc]
         try trivial
       · have : j = (rowAt l k).o.length := by omega
         subst this
         refine ⟨k + 1, by omega, by omega, ?_⟩
         have e6 : b ++ encN (numsB (l.take (k + 1))) = cc ++ encN ((rowAt l k).o.take (rowAt l k).o.length) := by rw [e7, List.take_length]
         simp only [↓wt, wz, wkf, reduceAdd, reduceMul, reduceEqDiff, reduceLeDiff, Nat.reduceLT, reduceLE, reduceLT, reduceEq, reduceNe, Bs, underL_R, e3, e6]
         try trivial
   · have : k = l.length := by omega
     subst this
     simp only [↓wt, wz, reduceAdd, reduceMul, reduceEqDiff, reduceLeDiff, Nat.reduceLT, reduceLE, reduceLT, reduceEq, reduceNe, Bs, List.take_length, Tryz.results38]
     exact exp_self (.l _ _ (pureB _))
end Go.Ab
namespace Go.Ab
open Go Go.Proofs Go.RowKit
noncomputable def tk (b : List UInt8) : Nat × List UInt8 × Bool :=
 ⟨Classical.choose (takeIs_ex b), Classical.choose (Classical.choose_spec (takeIs_ex b)), Classical.choose (Classical.choose_spec (Classical.choose_spec (takeIs_ex b)))⟩
theorem tk_is (b : List UInt8) : TakeIs b (tk b).1 (tk b).2.1 (tk b).2.2 := Classical.choose_spec (Classical.choose_spec (Classical.choose_spec (takeIs_ex b)))
theorem tk_len (b : List UInt8) : (tk b).2.1.length ≤ b.length := by
 rcases tk_is b with ⟨_, _, h⟩ | ⟨_, _, h, _⟩
 · have := congrArg List.length h
   rw [List.length_append] at this; omega
 · rw [h]; simp
theorem okR_take {a : Value} {r : List UInt8} {c : Value} : OkR (Under 0) (.t [.c a, Bs r, .c c]) := ⟨.c _, .l _ _ (pureB _), .c _, trivial⟩
theorem exp_tk {M : Mem} {a c : Value} {r : List UInt8} : Exp M (.t [.c a, .l 1 (r.map encB), .c c]) (.t [.c a, .l 1 (r.map encB), .c c]) := exp_tA (xT_cons xA_c (xT_cons (xA_pure weak_l (.l _ _ (pureB _))) (xT_cons xA_c xT_nil)))
abbrev M63 : Nat := 9223372036854775808
noncomputable def num (B : Nat) (b : List UInt8) : Int × List UInt8 × Bool := ⟨IntKind.i64.wrap ((tk b).1 : Int), (tk b).2.1, (tk b).2.2 && decide ((tk b).1 < B)⟩
theorem number_call (b : List UInt8) (hl : b.length ≤ 1000000000) : PCall Tryz.prog 97 [Bs b] (.t [.c (.int .i64 (num M63 b).1), Bs (num M63 b).2.1, .c (.bool (num M63 b).2.2)]) := by
 have m1 := ntake_call b hl (tk_is b)
 refine pcall_body tabOk Tryz.func97 rfl rfl (by rw [Tryz.ntmps97]; simp) ?_
 simp only [Tryz.ntmps97, Bs]
 simp only [↓wt, wz, reduceAdd, reduceMul, reduceEqDiff, reduceLeDiff, Nat.reduceLT, reduceLE, reduceLT, reduceEq, reduceNe]
 refine icall_drop [] m1 ⟨arg_l (pureB _), trivial⟩ okR_take ?_
 simp only [↓wt, wz, reduceAdd, reduceMul, reduceEqDiff, reduceLeDiff, Nat.reduceLT, reduceLE, reduceLT, reduceEq, reduceNe, Bs]
 have e : decide ((((tk b).1 : Nat) : Int) < 9223372036854775808) = decide ((tk b).1 < 9223372036854775808) := decide_eq_decide.2 (by omega)
 cases ho : (tk b).2.2
 · simp only [↓wt, wz, reduceAdd, reduceMul, reduceEqDiff, reduceLeDiff, Nat.reduceLT, reduceLE, reduceLT, reduceEq, reduceNe, ho, Tryz.results97]
   simp only [num, ho, Bool.false_and]
   exact exp_tk
 · simp only [↓wt, wz, reduceAdd, reduceMul, reduceEqDiff, reduceLeDiff, Nat.reduceLT, reduceLE, reduceLT, reduceEq, reduceNe, ho, Tryz.results97]
   simp only [num, ho, Bool.true_and, e]
   exact exp_tk
def manyL {α : Type} (take : List UInt8 → α × List UInt8 × Bool) : Nat → List UInt8 → List α × List UInt8
 | 0, b => ([], b)
 | n + 1, b => if (take b).2.2 then ((take b).1 :: (manyL take n (take b).2.1).1, (manyL take n (take b).2.1).2) else ([], b)
inductive Tk {α : Type} (take : List UInt8 → α × List UInt8 × Bool) (b : List UInt8) : List α → List UInt8 → Prop
 | nil : Tk take b [] b
 | snoc {xs : List α} {r : List UInt8} (h : Tk take b xs r) (ho : (take r).2.2 = true) : Tk take b (xs ++ [(take r).1]) (take r).2.1
theorem Tk.many {α : Type} {take : List UInt8 → α × List UInt8 × Bool} {b : List UInt8} {xs : List α} {r : List UInt8} (h : Tk take b xs r) : ∀ m, manyL take (xs.length + m) b = (xs ++ (manyL take m r).1, (manyL take m r).2) := by
 induction h with
 | nil => intro m; simp
 | snoc h ho ih =>
  rename_i xs r
  intro m
  have := ih (m + 1)
  rw [List.length_append, List.length_singleton, Nat.add_assoc, Nat.add_comm 1 m, this]
  simp only [manyL, ho, if_true, List.append_assoc, List.singleton_append]
theorem manyL_len {α : Type} {take : List UInt8 → α × List UInt8 × Bool} : ∀ n b, (manyL take n b).1.length ≤ n
 | 0, b => by simp [manyL]
 | n + 1, b => by
  simp only [manyL]
  split
  · have := manyL_len (take := take) n (take b).2.1
    simp; omega
  · simp
theorem num_len {B : Nat} (b : List UInt8) : (num B b).2.1.length ≤ b.length := tk_len b
theorem Tk.len {α : Type} {take : List UInt8 → α × List UInt8 × Bool} (ht : ∀ b, (take b).2.1.length ≤ b.length) {b : List UInt8} {xs : List α} {r : List UInt8} (h : Tk take b xs r) : r.length ≤ b.length := by
 induction h with
 | nil => exact Nat.le_refl _
 | snoc h ho ih => exact Nat.le_trans (ht _) ih
theorem exp_many3 {T : TypeId} {xs : List Int} {r : List UInt8} {b c : Bool} (hc : b = c) : Exp ⟨[(0, ⟨T, 1, xs.map encI⟩)], 1⟩ (.t [.s 0 0 xs.length, .l 1 (r.map encB), .c (.bool b)]) (.t [.l 1 (xs.map encI), .l 1 (r.map encB), .c (.bool c)]) := by
 subst hc
 exact exp_tA (xT_cons (xA_frz (off := 0) rfl (by simp) rfl (pureI _)) (xT_cons (xA_pure weak_l (.l _ _ (pureB _))) (xT_cons xA_c xT_nil)))
theorem manyI_call (b : List UInt8) (n : Nat) (hl : b.length ≤ 1000000000) (hn : n ≤ 1000) :
 PCall Tryz.prog 96 [Bs b, .c (.int .i64 n), .f 97 []] (.t [.l 1 ((manyL (num M63) n b).1.map encI), Bs (manyL (num M63) n b).2, .c (.bool (decide ((manyL (num M63) n b).1.length = n)))]) := by
 refine pcall_body tabOk Tryz.func96 rfl rfl (by rw [Tryz.ntmps96]; simp) ?_
 simp only [Tryz.ntmps96, Bs]
 simp only [↓wt, wz, reduceAdd, reduceMul, reduceEqDiff, reduceLeDiff, Nat.reduceLT, reduceLE, reduceLT, reduceEq, reduceNe]
 refine scope_rule tabOk ?_
 simp only [↓wt, wz, reduceAdd, reduceMul, reduceEqDiff, reduceLeDiff, Nat.reduceLT, reduceLE, reduceLT, reduceEq, reduceNe]
 refine make_room (.inr (by decide)) (by omega) (by dsimp only; omega) (by omega) ?_
 simp only [↓wt, wz, reduceAdd, reduceMul, reduceEqDiff, reduceLeDiff, Nat.reduceLT, reduceLE, reduceLT, reduceEq, reduceNe]
 refine loop_ruleM tabOk [1, 2, 15] (fun x : List Int × List UInt8 => [(0, Bs x.2), (9, .s 0 0 x.1.length), (16, .c (.int .i64 x.1.length))]) (fun x => ⟨[(0, ⟨2, 1, x.1.map encI⟩)], 1⟩) (fun x => Tk (num M63) b x.1 x.2 ∧ x.1.length ≤ n) (fun x => n - x.1.length) ([], b) ⟨.nil, by simp⟩ (fun _ => rfl) ?_ ?_
 · simp only [↓wt, wz, wkf, reduceAdd, reduceMul, reduceEqDiff, reduceLeDiff, Nat.reduceLT, reduceLE, reduceLT, reduceEq, reduceNe, Bs, under_f]
   try trivial
 · rintro ⟨xs, r⟩ ⟨h1, h2⟩
   dsimp only at h1 h2
   have hr := h1.len num_len
   have e3 := wi_succ (k := xs.length) (by omega)
   simp only [↓wt, wz, reduceAdd, reduceMul, reduceEqDiff, reduceLeDiff, Nat.reduceLT, reduceLE, reduceLT, reduceEq, reduceNe, Bs]
   repeat' (first | ((first | refine r_casesD (fun hp hb => ?_) (fun hp hb => ?_) | refine r_casesN (fun hp hb => ?_) (fun hp hb => ?_) | refine r_casesM (fun hp hb => ?_) (fun hp hb => ?_) | refine r_casesB (fun hp hb => ?_) (fun hp hb => ?_) | refine r_gcasesD (fun hp hb => ?_) (fun hp hb => ?_) | refine r_gcasesN (fun hp hb => ?_) (fun hp hb => ?_) | refine r_gcasesM (fun hp hb => ?_) (fun hp hb => ?_) | refine r_gcasesB (fun hp hb => ?_) (fun hp hb => ?_)) <;> simp only [↓wt, wz, reduceAdd, reduceMul, reduceEqDiff, reduceLeDiff, Nat.reduceLT, reduceLE, reduceLT, reduceEq, reduceNe, Bs, hb]) | ((with_reducible refine And.intro ?_ ?_); omega) | fail)
   · have h3 : xs.length < n := by omega
     refine icall_drop [] (number_call r (by omega)) ⟨arg_l (pureB _), trivial⟩ okR_take ?_
     simp only [↓wt, wz, reduceAdd, reduceMul, reduceEqDiff, reduceLeDiff, Nat.reduceLT, reduceLE, reduceLT, reduceEq, reduceNe, Bs]
     cases ho : (num M63 r).2.2
     · have hm := h1.many (n - xs.length)
       rw [show xs.length + (n - xs.length) = n by omega, show n - xs.length = (n - xs.length - 1) + 1 by omega] at hm
       simp only [manyL, ho, Bool.false_eq_true, if_false, List.append_nil] at hm
       simp only [↓wt, wz, reduceAdd, reduceMul, reduceEqDiff, reduceLeDiff, Nat.reduceLT, reduceLE, reduceLT, reduceEq, reduceNe, ho, Bs, Tryz.results96]
       rw [hm]
       exact exp_many3 (by rw [decide_eq_decide]; dsimp only; omega)
     · simp only [↓wt, wz, reduceAdd, reduceMul, reduceEqDiff, reduceLeDiff, Nat.reduceLT, reduceLE, reduceLT, reduceEq, reduceNe, ho, Bs]
       refine ⟨by omega, (xs ++ [(num M63 r).1], (num M63 r).2.1), ⟨h1.snoc ho, by simp; omega⟩, by simp; omega, ?_⟩
       simp only [↓wt, wz, wkf, reduceAdd, reduceMul, reduceEqDiff, reduceLeDiff, Nat.reduceLT, reduceLE, reduceLT, reduceEq, reduceNe, Bs, e3, under_f, List.length_append, List.map_append, underL_append, underL_I, encI_eq]
       try trivial
   · have hn2 : xs.length = n := by omega
     have hm := h1.many 0
     simp only [manyL, Nat.add_zero, List.append_nil, hn2] at hm
     simp only [↓wt, wz, reduceAdd, reduceMul, reduceEqDiff, reduceLeDiff, Nat.reduceLT, reduceLE, reduceLT, reduceEq, reduceNe, Bs, Tryz.results96]
     rw [hm]
     exact exp_many3 (by rw [decide_eq_decide]; dsimp only; omega)
noncomputable def rowT (B n : Nat) (b : List UInt8) : RowD × List UInt8 × Bool :=
 if (manyL (num B) (n + 2) b).1.length = n + 2 then (⟨(manyL (num B) (n + 2) b).1.getD 0 0, (manyL (num B) (n + 2) b).1.getD 1 0, (manyL (num B) (n + 2) b).1.drop 2⟩, (manyL (num B) (n + 2) b).2, true) else (⟨0, 0, []⟩, [], false)
theorem okR_many {xs : List Int} {r : List UInt8} {c : Value} : OkR (Under 0) (.t [.l 1 (xs.map encI), Bs r, .c c]) := ⟨.l _ _ (pureI _), .l _ _ (pureB _), .c _, trivial⟩
theorem xA_row {M : Mem} {r : RowD} : ∃ f, ExpA M (RowV r) (RowV r) [] f :=
 xA_pure (by show WeakL _ _; exact (show ResL [.c (.int .i64 r.i), .c (.int .i64 r.u), .l 1 (r.o.map encI)] [.c (.int .i64 r.i), .c (.int .i64 r.u), .l 1 (r.o.map encI)] from ⟨.refl _, .c _, .refl _, .c _, .refl _, .l _ _ (pureI _), trivial⟩).weak.1) (arg_rowV (M := M) (ids := [])).2.2.2
theorem xA_row0 {M : Mem} : ∃ f, ExpA M (.g [.c (.int .i64 0), .c (.int .i64 0), .c (.slice none 0 0)]) (RowV ⟨0, 0, []⟩) [] f :=
 xA_pure (by show WeakL _ _; exact (show ResL [.c (.int .i64 0), .c (.int .i64 0), .c (.slice none 0 0)] [.c (.int .i64 0), .c (.int .i64 0), .l 1 []] from ⟨.refl _, .c _, .refl _, .c _, trivial, okR_nil, trivial⟩).weak.1) (arg_rowV (M := M) (ids := [])).2.2.2
theorem xA_Bs {M : Mem} {r : List UInt8} : ∃ f, ExpA M (.l 1 (r.map encB)) (.l 1 (r.map encB)) [] f := xA_pure weak_l (.l _ _ (pureB _))
theorem exp_take0 {M : Mem} {sz : Nat} : Exp M (.t [.c (.slice none 0 0), .c (.slice none 0 0), .c (.bool false)]) (.t [.l sz [], .l 1 [], .c (.bool false)]) := exp_tA (xT_cons xA_nil (xT_cons xA_nil (xT_cons xA_c xT_nil)))
theorem takef_call (c : Conf) (b : List UInt8) (hl : b.length ≤ 1000000000) (hn : 1 ≤ c.n ∧ c.n ≤ 16) :
 PCall Tryz.prog 95 [Bs b, .e [.c (.int .i64 c.n), .c (.int .i64 c.q), .c (.int .i64 c.r), .c (.int .i64 c.p), .c (.int .i64 c.k), .c (.int .i64 c.c)]] (.t [RowV (rowT M63 c.n.toNat b).1, Bs (rowT M63 c.n.toNat b).2.1, .c (.bool (rowT M63 c.n.toNat b).2.2)]) := by
 obtain ⟨n, hcn⟩ : ∃ n : Nat, c.n = n := ⟨c.n.toNat, by omega⟩
 have m1 := manyI_call b (n + 2) hl (by omega)
 have e1 : IntKind.i64.wrap (c.n + 2) = ((n + 2 : Nat) : Int) := by rw [wrap_i64 (by omega) (by omega)]; omega
 have hnt : c.n.toNat = n := by omega
 refine pcall_body tabOk Tryz.func95 rfl rfl (by rw [Tryz.ntmps95]; simp) ?_
 simp only [Tryz.ntmps95, Bs]
 simp only [↓wt, wz, reduceAdd, reduceMul, reduceEqDiff, reduceLeDiff, Nat.reduceLT, reduceLE, reduceLT, reduceEq, reduceNe, e1]
 refine icall_drop [] m1 ⟨arg_l (pureB _), arg_c, arg_f, trivial⟩ okR_many ?_
 simp only [↓wt, wz, reduceAdd, reduceMul, reduceEqDiff, reduceLeDiff, Nat.reduceLT, reduceLE, reduceLT, reduceEq, reduceNe, Bs]
 repeat' (first | ((first | refine r_casesD (fun hp hb => ?_) (fun hp hb => ?_) | refine r_casesN (fun hp hb => ?_) (fun hp hb => ?_) | refine r_casesM (fun hp hb => ?_) (fun hp hb => ?_) | refine r_casesB (fun hp hb => ?_) (fun hp hb => ?_) | refine r_gcasesD (fun hp hb => ?_) (fun hp hb => ?_) | refine r_gcasesN (fun hp hb => ?_) (fun hp hb => ?_) | refine r_gcasesM (fun hp hb => ?_) (fun hp hb => ?_) | refine r_gcasesB (fun hp hb => ?_) (fun hp hb => ?_)) <;> simp only [↓wt, wz, reduceAdd, reduceMul, reduceEqDiff, reduceLeDiff, Nat.reduceLT, reduceLE, reduceLT, reduceEq, reduceNe, Tryz.results95, hb]) | ((with_reducible refine And.intro ?_ ?_); omega) | fail)
 · have hm : n + 2 = (manyL (num M63) (n + 2) b).1.length := hp.symm
   refine draw_rule tabOk mixed [0, 0, 0, 0, 0, 0, 0, 0, 1, 0, 1, 0, 0] [[], [0], [0, 1], [], [3], [3, 4], [], [6], [0, 1, 2, 3, 4, 5, 6, 7], [], [0, 1, 2, 3, 4, 5, 6, 7, 8], [0, 1, 2, 3, 4, 5, 6, 7, 8, 9, 10], [0, 1, 2, 3, 4, 5, 6, 7, 8, 9, 10, 11]] (by kernel_rfl) ?_
   simp only [↓wt, wz, reduceAdd, reduceMul, reduceEqDiff, reduceLeDiff, Nat.reduceLT, reduceLE, reduceLT, reduceEq, reduceNe, elem_I]
   repeat (refine And.intro (by omega) ?_)
   refine d_heavyX (by simp only [↓wt, wz, reduceAdd, reduceMul, reduceEqDiff, reduceLeDiff, Nat.reduceLT, reduceLE, reduceLT, reduceEq, reduceNe]; (repeat (first | refine And.intro (by omega) ?_ | refine And.intro (pureB _) ?_ | refine And.intro (pureI _) ?_ | refine And.intro ⟨pureB _, pureB _⟩ ?_ | refine And.intro ⟨pureB _, pureI _⟩ ?_ | refine And.intro ⟨pureI _, pureB _⟩ ?_ | refine And.intro ⟨pureI _, pureI _⟩ ?_)); exact ⟨rfl, rfl⟩) ?_
   simp only [↓wt, wz, reduceAdd, reduceMul, reduceEqDiff, reduceLeDiff, Nat.reduceLT, reduceLE, reduceLT, reduceEq, reduceNe]
   refine d_heavyX (by simp only [↓wt, wz, reduceAdd, reduceMul, reduceEqDiff, reduceLeDiff, Nat.reduceLT, reduceLE, reduceLT, reduceEq, reduceNe, Cell]; (repeat (first | refine And.intro (by omega) ?_ | refine And.intro (pureB _) ?_ | refine And.intro (pureI _) ?_ | refine And.intro ⟨pureB _, pureB _⟩ ?_ | refine And.intro ⟨pureB _, pureI _⟩ ?_ | refine And.intro ⟨pureI _, pureB _⟩ ?_ | refine And.intro ⟨pureI _, pureI _⟩ ?_)); exact ⟨rfl, rfl⟩) ?_
   simp only [↓wt, wz, reduceAdd, reduceMul, reduceEqDiff, reduceLeDiff, Nat.reduceLT, reduceLE, reduceLT, reduceEq, reduceNe, Tryz.results95]
   have e : rowT M63 n b = (⟨(manyL (num M63) (n + 2) b).1.getD 0 0, (manyL (num M63) (n + 2) b).1.getD 1 0, (manyL (num M63) (n + 2) b).1.drop 2⟩, (manyL (num M63) (n + 2) b).2, true) := by rw [rowT, if_pos hp]
   rw [hnt, e]
   exact exp_tA (xT_cons (xA_row (r := ⟨_, _, _⟩)) (xT_cons xA_Bs (xT_cons xA_c xT_nil)))
 · have e : rowT M63 n b = (⟨0, 0, []⟩, [], false) := by rw [rowT, if_neg hp]
   rw [hnt, e]
   exact exp_tA (xT_cons xA_row0 (xT_cons xA_nil (xT_cons xA_c xT_nil)))
theorem manyL_rest {α : Type} {take : List UInt8 → α × List UInt8 × Bool} (ht : ∀ b, (take b).2.1.length ≤ b.length) : ∀ n b, (manyL take n b).2.length ≤ b.length
 | 0, b => by simp [manyL]
 | n + 1, b => by
  simp only [manyL]
  split
  · exact Nat.le_trans (manyL_rest ht n _) (ht b)
  · exact Nat.le_refl _
theorem rowT_len (B n : Nat) (b : List UInt8) : (rowT B n b).2.1.length ≤ b.length := by
 unfold rowT
 split
 · exact manyL_rest num_len _ _
 · simp
theorem okR_takeR {r : RowD} {b : List UInt8} {v : Value} : OkR (Under 0) (.t [RowV r, Bs b, .c v]) := ⟨⟨.c _, .c _, .l _ _ (pureI _), trivial⟩, okR_Bs, .c _, trivial⟩
theorem exp_manyR {T : TypeId} {xs : List RowD} {r : List UInt8} {b c : Bool} (hc : b = c) : Exp ⟨[(0, ⟨T, 3, xs.map RowV⟩)], 1⟩ (.t [.s 0 0 xs.length, .l 1 (r.map encB), .c (.bool b)]) (.t [BooksV xs, .l 1 (r.map encB), .c (.bool c)]) := by
 subst hc
 exact exp_tA (xT_cons (xA_frz (off := 0) rfl (by simp) rfl (pureR _)) (xT_cons xA_Bs (xT_cons xA_c xT_nil)))
theorem manyR_call (c : Conf) (b : List UInt8) (hl : b.length ≤ 1000000000) (hn : 1 ≤ c.n ∧ c.n ≤ 16) :
 PCall Tryz.prog 94 [Bs b, .c (.int .i64 c.n), .f 95 [.e [.c (.int .i64 c.n), .c (.int .i64 c.q), .c (.int .i64 c.r), .c (.int .i64 c.p), .c (.int .i64 c.k), .c (.int .i64 c.c)]]]
  (.t [BooksV (manyL (rowT M63 c.n.toNat) c.n.toNat b).1, Bs (manyL (rowT M63 c.n.toNat) c.n.toNat b).2, .c (.bool (decide ((manyL (rowT M63 c.n.toNat) c.n.toNat b).1.length = c.n.toNat)))]) := by
 obtain ⟨n, hcn⟩ : ∃ n : Nat, c.n = n := ⟨c.n.toNat, by omega⟩
 have hnt : c.n.toNat = n := by omega
 refine pcall_body tabOk Tryz.func94 rfl rfl (by rw [Tryz.ntmps94]; simp) ?_
 simp only [Tryz.ntmps94, Bs, hnt]
 simp only [↓wt, wz, reduceAdd, reduceMul, reduceEqDiff, reduceLeDiff, Nat.reduceLT, reduceLE, reduceLT, reduceEq, reduceNe]
 refine scope_rule tabOk ?_
 simp only [↓wt, wz, reduceAdd, reduceMul, reduceEqDiff, reduceLeDiff, Nat.reduceLT, reduceLE, reduceLT, reduceEq, reduceNe]
 refine make_room (.inr (by decide)) (by omega) (by dsimp only; omega) (by omega) ?_
 simp only [↓wt, wz, reduceAdd, reduceMul, reduceEqDiff, reduceLeDiff, Nat.reduceLT, reduceLE, reduceLT, reduceEq, reduceNe]
 refine loop_ruleM tabOk [1, 2, 15] (fun x : List RowD × List UInt8 => [(0, Bs x.2), (9, .s 0 0 x.1.length), (16, .c (.int .i64 x.1.length))]) (fun x => ⟨[(0, ⟨112, 3, x.1.map RowV⟩)], 1⟩) (fun x => Tk (rowT M63 n) b x.1 x.2 ∧ x.1.length ≤ n) (fun x => n - x.1.length) ([], b) ⟨.nil, by simp⟩ (fun _ => rfl) ?_ ?_
 · simp only [↓wt, wz, wkf, reduceAdd, reduceMul, reduceEqDiff, reduceLeDiff, Nat.reduceLT, reduceLE, reduceLT, reduceEq, reduceNe, Bs, under_f, under_e]
   try trivial
 · rintro ⟨xs, r⟩ ⟨h1, h2⟩
   dsimp only at h1 h2
   have hr := h1.len (rowT_len _ n)
   have e3 := wi_succ (k := xs.length) (by omega)
   simp only [↓wt, wz, reduceAdd, reduceMul, reduceEqDiff, reduceLeDiff, Nat.reduceLT, reduceLE, reduceLT, reduceEq, reduceNe, Bs]
   repeat' (first | ((first | refine r_casesD (fun hp hb => ?_) (fun hp hb => ?_) | refine r_casesN (fun hp hb => ?_) (fun hp hb => ?_) | refine r_casesM (fun hp hb => ?_) (fun hp hb => ?_) | refine r_casesB (fun hp hb => ?_) (fun hp hb => ?_) | refine r_gcasesD (fun hp hb => ?_) (fun hp hb => ?_) | refine r_gcasesN (fun hp hb => ?_) (fun hp hb => ?_) | refine r_gcasesM (fun hp hb => ?_) (fun hp hb => ?_) | refine r_gcasesB (fun hp hb => ?_) (fun hp hb => ?_)) <;> simp only [↓wt, wz, reduceAdd, reduceMul, reduceEqDiff, reduceLeDiff, Nat.reduceLT, reduceLE, reduceLT, reduceEq, reduceNe, Bs, hb]) | ((with_reducible refine And.intro ?_ ?_); omega) | fail)
   · have h3 : xs.length < n := by omega
     have m1 := takef_call c r (by omega) hn
     rw [hnt] at m1
     refine icall_drop [] m1 ⟨arg_l (pureB _), arg_e (by simp only [under_c, List.mem_cons, List.not_mem_nil, or_false, forall_eq_or_imp, forall_eq, and_self]), trivial⟩ okR_takeR ?_
     simp only [↓wt, wz, reduceAdd, reduceMul, reduceEqDiff, reduceLeDiff, Nat.reduceLT, reduceLE, reduceLT, reduceEq, reduceNe, Bs, RowV_eq]
     cases ho : (rowT M63 n r).2.2
     · have hm := h1.many (n - xs.length)
       rw [show xs.length + (n - xs.length) = n by omega, show n - xs.length = (n - xs.length - 1) + 1 by omega] at hm
       simp only [manyL, ho, Bool.false_eq_true, if_false, List.append_nil] at hm
       simp only [↓wt, wz, reduceAdd, reduceMul, reduceEqDiff, reduceLeDiff, Nat.reduceLT, reduceLE, reduceLT, reduceEq, reduceNe, ho, Bs, RowV_eq, Tryz.results94]
       rw [hm]
       exact exp_manyR (by rw [decide_eq_decide]; dsimp only; omega)
     · simp only [↓wt, wz, reduceAdd, reduceMul, reduceEqDiff, reduceLeDiff, Nat.reduceLT, reduceLE, reduceLT, reduceEq, reduceNe, ho, Bs, RowV_eq, Cell]
       refine ⟨by omega, (xs ++ [(rowT M63 n r).1], (rowT M63 n r).2.1), ⟨h1.snoc ho, by simp; omega⟩, by simp; omega, ?_⟩
       simp only [↓wt, wz, wkf, reduceAdd, reduceMul, reduceEqDiff, reduceLeDiff, Nat.reduceLT, reduceLE, reduceLT, reduceEq, reduceNe, Bs, e3, under_f, under_e, List.length_append, List.map_append, underL_append, underL_R, RowV_eq]
       try trivial
   · have hn2 : xs.length = n := by omega
     have hm := h1.many 0
     simp only [manyL, Nat.add_zero, List.append_nil, hn2] at hm
     simp only [↓wt, wz, reduceAdd, reduceMul, reduceEqDiff, reduceLeDiff, Nat.reduceLT, reduceLE, reduceLT, reduceEq, reduceNe, Bs, Tryz.results94]
     rw [hm]
     exact exp_manyR (by rw [decide_eq_decide]; dsimp only; omega)
end Go.Ab
namespace Go.Ab
open Go Go.Proofs Go.RowKit
def newB (c : Conf) : List RowD := if MayC c then List.replicate c.n.toNat ⟨0, 0, List.replicate c.n.toNat 0⟩ else []
def nwX (n k : Nat) : List AV := (List.replicate k (⟨0, 0, List.replicate n 0⟩ : RowD)).map RowV ++ List.replicate (n - k) (.g [.c (.int .i64 0), .c (.int .i64 0), .c (.slice none 0 0)])
theorem nwX_len {n k : Nat} (h : k ≤ n) : (nwX n k).length = n := by simp [nwX]; omega
theorem nwX_elem {n k : Nat} (h : k < n) {K : AV → Prop} : Elem (nwX n k) k K = K (.g [.c (.int .i64 0), .c (.int .i64 0), .c (.slice none 0 0)]) := by
 have hk : k < (nwX n k).length := by rw [nwX_len (by omega)]; exact h
 have : (nwX n k)[k] = .g [.c (.int .i64 0), .c (.int .i64 0), .c (.slice none 0 0)] := by
  simp only [nwX]
  rw [List.getElem_append_right (by simp)]
  simp
 simp only [Elem, hk, exists_true_left, this]
theorem nwX_set {n k : Nat} (h : k < n) : (nwX n k).set k (RowV ⟨0, 0, List.replicate n 0⟩) = nwX n (k + 1) := by
 simp only [nwX]
 rw [List.set_append_right _ _ (by simp)]
 simp only [List.length_map, List.length_replicate, Nat.sub_self]
 rw [show n - k = (n - (k + 1)) + 1 by omega, List.replicate_succ, List.set_cons_zero, List.replicate_succ', List.map_append, List.append_assoc]
 rfl
theorem mem_nwX {n k : Nat} {x : AV} (h : x ∈ nwX n k) : (∃ r, x = RowV r) ∨ x = .g [.c (.int .i64 0), .c (.int .i64 0), .c (.slice none 0 0)] := by
 rcases List.mem_append.1 h with h | h
 · obtain ⟨r, _, rfl⟩ := List.mem_map.1 h
   exact .inl ⟨r, rfl⟩
 · exact .inr (List.eq_of_mem_replicate h)
theorem underL_nw {n k m : Nat} : UnderL m (nwX n k) = True := eq_true (underL_mem fun a ha x hx => by
 rcases mem_nwX ha with ⟨r, rfl⟩ | rfl
 · exact under_RowV r x hx
 · simp only [AV.cells, List.mem_cons, List.not_mem_nil, or_false] at hx
   rcases hx with rfl | rfl | rfl <;> exact .c _)
theorem bok_nw {M : Mem} {n k id : Nat} {x : AV} (h : ∀ c ∈ x.cells, FOk M id c) : ∀ y ∈ (nwX n k).set k x, ∀ c ∈ y.cells, FOk M id c := fun y hy c hc => by
 rcases List.mem_or_eq_of_mem_set hy with hy | rfl
 · rcases mem_nwX hy with ⟨r, rfl⟩ | rfl
   · simp only [RowV, RowA, AV.cells, List.mem_cons, List.not_mem_nil, or_false] at hc
     rcases hc with rfl | rfl | rfl <;> trivial
   · simp only [AV.cells, List.mem_cons, List.not_mem_nil, or_false] at hc
     rcases hc with rfl | rfl | rfl <;> trivial
 · exact h c hc
theorem frz_nw {M : Mem} {n k id : Nat} : (nwX n k).map (frzE M id) = nwX n k := frz_data fun x hx => by
 rcases mem_nwX hx with ⟨r, rfl⟩ | rfl <;> rfl
theorem nwX_0 {n : Nat} : nwX n 0 = List.replicate n (.g [.c (.int .i64 0), .c (.int .i64 0), .c (.slice none 0 0)]) := by simp [nwX]
theorem nwX_n {n : Nat} : nwX n n = (List.replicate n (⟨0, 0, List.replicate n 0⟩ : RowD)).map RowV := by simp [nwX]
theorem repI {n : Nat} : List.replicate n (AV.c (.int .i64 0)) = (List.replicate n 0).map encI := by rw [List.map_replicate]; rfl
theorem new_call (c : Conf) : PCall Tryz.prog 58 [ConfA c] (BooksV (newB c)) := by
 have m1 := rtmay_call c
 refine pcall_body tabOk Tryz.func58 rfl rfl (by rw [Tryz.ntmps58]; simp) ?_
 simp only [Tryz.ntmps58, ConfA]
 simp only [↓wt, wz, reduceAdd, reduceMul, reduceEqDiff, reduceLeDiff, Nat.reduceLT, reduceLE, reduceLT, reduceEq, reduceNe]
 refine icall_drop [] m1 ⟨arg_conf', trivial⟩ (.c _) ?_
 simp only [↓wt, wz, reduceAdd, reduceMul, reduceEqDiff, reduceLeDiff, Nat.reduceLT, reduceLE, reduceLT, reduceEq, reduceNe]
 refine r_casesN (fun h0 hb => ?_) (fun h0 hb => ?_) <;> simp only [↓wt, wz, reduceAdd, reduceMul, reduceEqDiff, reduceLeDiff, Nat.reduceLT, reduceLE, reduceLT, reduceEq, reduceNe, hb]
 · have hn := h0.1
   refine make_same (.inl rfl) (by omega) (by dsimp only; omega) (by omega) ?_
   obtain ⟨n, hcn⟩ : ∃ n : Nat, c.n = n := ⟨c.n.toNat, by omega⟩
   have htn : c.n.toNat = n := by omega
   simp only [hcn, Int.toNat_natCast]
   simp only [↓wt, wz, reduceAdd, reduceMul, reduceEqDiff, reduceLeDiff, Nat.reduceLT, reduceLE, reduceLT, reduceEq, reduceNe, List.length_replicate]
   refine loop_ruleF tabOk [1, 3, 12] (fun k : Nat => [(13, .c (.int .i64 k))]) (fun k => ⟨[(0, ⟨23, 6, [ConfA ⟨n, c.q, c.r, c.p, c.k, c.c⟩]⟩), (1, ⟨112, 3, nwX n k⟩)], 2⟩) (fun k => k ≤ n) (fun k => n - k) 0 (by omega) (fun k => Nat.le_refl _) ?_ ?_
   · simp only [↓wt, wz, wkf, reduceAdd, reduceMul, reduceEqDiff, reduceLeDiff, Nat.reduceLT, reduceLE, reduceLT, reduceEq, reduceNe, nwX_0, ConfA, List.length_replicate]
     rw [← nwX_0, underL_nw]; trivial
   · intro k hk
     have hl := nwX_len hk
     simp only [ConfA]
     simp only [↓wt, wz, reduceAdd, reduceMul, reduceEqDiff, reduceLeDiff, Nat.reduceLT, reduceLE, reduceLT, reduceEq, reduceNe]
     repeat' (first | ((first | refine r_casesD (fun hp hb => ?_) (fun hp hb => ?_) | refine r_casesN (fun hp hb => ?_) (fun hp hb => ?_) | refine r_casesM (fun hp hb => ?_) (fun hp hb => ?_) | refine r_casesB (fun hp hb => ?_) (fun hp hb => ?_) | refine r_gcasesD (fun hp hb => ?_) (fun hp hb => ?_) | refine r_gcasesN (fun hp hb => ?_) (fun hp hb => ?_) | refine r_gcasesM (fun hp hb => ?_) (fun hp hb => ?_) | refine r_gcasesB (fun hp hb => ?_) (fun hp hb => ?_)) <;> simp only [↓wt, wz, reduceAdd, reduceMul, reduceEqDiff, reduceLeDiff, Nat.reduceLT, reduceLE, reduceLT, reduceEq, reduceNe, hb]) | ((with_reducible refine And.intro ?_ ?_); omega) | fail)
     · refine make_same (.inr (by decide)) (by omega) (by dsimp only; omega) (by omega) ?_
       have hkn : k < n := by omega
       have e3 := wi_succ (k := k) (by omega)
       simp only [Int.toNat_natCast]
       simp only [↓wt, wz, reduceAdd, reduceMul, reduceEqDiff, reduceLeDiff, Nat.reduceLT, reduceLE, reduceLT, reduceEq, reduceNe, List.length_replicate, repI]
       repeat (refine And.intro (by omega) ?_)
       rw [nwX_elem hkn]
       simp only [↓wt, wz, reduceAdd, reduceMul, reduceEqDiff, reduceLeDiff, Nat.reduceLT, reduceLE, reduceLT, reduceEq, reduceNe, Cell, List.length_replicate]
       refine .step 2 [1, 3, 12, 13] ⟨?_, ?_, trivial⟩ ?_ (.done ?_)
       · exact bok_conf (c := ⟨n, c.q, c.r, c.p, c.k, c.c⟩)
       · refine bok_nw fun d hd => ?_
         simp only [AV.cells, List.mem_cons, List.not_mem_nil, or_false] at hd
         rcases hd with rfl | rfl | rfl
         · trivial
         · trivial
         · exact fun _ => ⟨_, rfl, by simp, pureI _⟩
       · simp only [↓wt, wz, reduceAdd, reduceMul, reduceEqDiff, reduceLeDiff, Nat.reduceLT, reduceLE, reduceLT, reduceEq, reduceNe]
       · refine ⟨k + 1, by omega, by omega, ?_⟩
         have hset := nwX_set hkn
         rw [RowV_eq] at hset
         simp only [↓wt, wz, wkf, reduceAdd, reduceMul, reduceEqDiff, reduceLeDiff, Nat.reduceLT, reduceLE, reduceLT, reduceEq, reduceNe, List.map_set, frz_nw, hset, e3, underL_nw, List.length_set]
     · simp only [↓wt, wz, reduceAdd, reduceMul, reduceEqDiff, reduceLeDiff, Nat.reduceLT, reduceLE, reduceLT, reduceEq, reduceNe, Tryz.results58]
       have hkn : k = n := by omega
       subst hkn
       rw [newB, if_pos h0, htn]
       exact exp_frz (off := 0) rfl (by simp [hl]) nwX_n (by rw [pureL_eq, underL_nw]; trivial)
 · simp only [↓wt, wz, reduceAdd, reduceMul, reduceEqDiff, reduceLeDiff, Nat.reduceLT, reduceLE, reduceLT, reduceEq, reduceNe, Tryz.results58]
   rw [newB, if_neg h0]
   exact exp_l trivial okR_nil
end Go.Ab
namespace Go.Ab
open Go Go.Proofs Go.RowKit
end Go.Ab
