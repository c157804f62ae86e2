/- Rights: books; a share; how many numbers; the same; there. Rights: the .. -/
import Derived.Test.YtkikaagieknpdaaGreatRt1
import Derived.Test.YtkikaagieknpdaaGreatAbG6
set_option linter.unusedSimpArgs false
set_option linter.unusedVariables false
set_option linter.constructorNameAsVariable false
set_option maxRecDepth 100000
open Nat (reduceAdd reduceMul reduceEqDiff reduceLeDiff)
open Int (reduceLE reduceLT reduceEq reduceNe)
namespace Go.Ab
open Go Go.Proofs Go.RowKit
structure RowD where
 i : Int
 u : Int
 o : List Int
 deriving Inhabited, DecidableEq
def RowV (r : RowD) : AV := RowA r.i r.u r.o
theorem RowV_eq {r : RowD} : RowV r = .g [.c (.int .i64 r.i), .c (.int .i64 r.u), .l 1 (r.o.map encI)] := rfl
def rowAt (l : List RowD) (k : Nat) : RowD := l.getD k ⟨0, 0, []⟩
theorem elem_R {l : List RowD} {i : Nat} {K : AV → Prop} : Elem (l.map RowV) i K = (i < l.length ∧ K (RowV (rowAt l i))) := elem_map _
theorem under_RowV {k : Nat} (r : RowD) : ∀ x ∈ (RowV r).cells, Under k x := fun x hx => by
 simp only [RowV, RowA, AV.cells, List.mem_cons, List.not_mem_nil, or_false] at hx
 rcases hx with rfl | rfl | rfl
 · exact .c _
 · exact .c _
 · rw [under_l, underL_I]; trivial
theorem underL_R {k : Nat} {l : List RowD} : UnderL k (l.map RowV) = True := eq_true (underL_map k under_RowV l)
theorem pureR (l : List RowD) : PureL (l.map RowV) := by rw [pureL_eq, underL_R]; trivial
def BooksV (l : List RowD) : AV := .l 3 (l.map RowV)
theorem rowAt_ge {l : List RowD} {k : Nat} (h : l.length ≤ k) : rowAt l k = ⟨0, 0, []⟩ := by
 rw [rowAt, List.getD_eq_getElem?_getD, List.getElem?_eq_none h]; rfl
theorem books_ext {a b : List RowD} (hl : a.length = b.length) (h : ∀ k, k < a.length → rowAt a k = rowAt b k) : a = b := by
 refine List.ext_getElem hl fun k h1 h2 => ?_
 have := h k h1
 rwa [rowAt, rowAt, List.getD_eq_getElem?_getD, List.getD_eq_getElem?_getD, List.getElem?_eq_getElem h1, List.getElem?_eq_getElem h2] at this
theorem arg_conf {M : Mem} {ids : List Nat} {c : Conf} : VOkA M (ConfA c) ∧ (∀ k ∈ idsA (ConfA c), k ∈ ids) ∧ Weak (viewA M (ConfA c)) (ConfA c) ∧ Under 0 (ConfA c) :=
 arg_pure ⟨argC_c, argC_c, argC_c, argC_c, argC_c, argC_c, trivial⟩
theorem arg_conf' {M : Mem} {ids : List Nat} {c : Conf} : VOkA M (.g [.c (.int .i64 c.n), .c (.int .i64 c.q), .c (.int .i64 c.r), .c (.int .i64 c.p), .c (.int .i64 c.k), .c (.int .i64 c.c)]) ∧ (∀ k ∈ idsA (.g [.c (.int .i64 c.n), .c (.int .i64 c.q), .c (.int .i64 c.r), .c (.int .i64 c.p), .c (.int .i64 c.k), .c (.int .i64 c.c)]), k ∈ ids) ∧ Weak (viewA M (.g [.c (.int .i64 c.n), .c (.int .i64 c.q), .c (.int .i64 c.r), .c (.int .i64 c.p), .c (.int .i64 c.k), .c (.int .i64 c.c)])) (ConfA c) ∧ Under 0 (ConfA c) := arg_conf
theorem arg_books {M : Mem} {ids : List Nat} {l : List RowD} : VOkA M (.l 3 (l.map RowV)) ∧ (∀ k ∈ idsA (.l 3 (l.map RowV)), k ∈ ids) ∧ Weak (viewA M (.l 3 (l.map RowV))) (.l 3 (l.map RowV)) ∧ Under 0 (.l 3 (l.map RowV)) := arg_l (pureR l)
theorem arg_rowV {M : Mem} {ids : List Nat} {r : RowD} : VOkA M (RowV r) ∧ (∀ k ∈ idsA (RowV r), k ∈ ids) ∧ Weak (viewA M (RowV r)) (RowV r) ∧ Under 0 (RowV r) := arg_pure ⟨argC_c, argC_c, argC_I, trivial⟩
def There (c : Conf) (w : Int) : Prop := 0 ≤ w ∧ w < c.n
instance (c : Conf) (w : Int) : Decidable (There c w) := by unfold There; infer_instance
theorem there_call (c : Conf) (w : Int) : PCall Tryz.prog 114 [ConfA c, .c (.int .i64 w)] (.c (.bool (decide (There c w)))) := by
 refine pcall_body tabOk Tryz.func114 rfl rfl (by rw [Tryz.ntmps114]; simp) ?_
 simp only [Tryz.ntmps114, ConfA]
 simp only [↓wt, wz, reduceAdd, reduceMul, reduceEqDiff, reduceLeDiff, Nat.reduceLT, reduceLE, reduceLT, reduceEq, reduceNe]
 repeat' (first | ((first | refine r_casesD (fun hp hb => ?_) (fun hp hb => ?_) | refine r_casesN (fun hp hb => ?_) (fun hp hb => ?_) | refine r_casesM (fun hp hb => ?_) (fun hp hb => ?_) | refine r_casesB (fun hp hb => ?_) (fun hp hb => ?_) | refine r_gcasesD (fun hp hb => ?_) (fun hp hb => ?_) | refine r_gcasesN (fun hp hb => ?_) (fun hp hb => ?_) | refine r_gcasesM (fun hp hb => ?_) (fun hp hb => ?_) | refine r_gcasesB (fun hp hb => ?_) (fun hp hb => ?_)) <;> simp only [↓wt, wz, reduceAdd, reduceMul, reduceEqDiff, reduceLeDiff, Nat.reduceLT, reduceLE, reduceLT, reduceEq, reduceNe, Tryz.results114, hb]) | ((with_reducible refine And.intro ?_ ?_); omega) | fail)
 · exact exp_bE (by unfold There; omega)
 · exact exp_bF (by unfold There; omega)
def shareC (c : Conf) (w : Int) : Int := if MayC c ∧ There c w then (if w < c.k % c.n then c.k / c.n + 1 else c.k / c.n) else 0
theorem share_q {c : Conf} (h : MayC c) : 0 ≤ c.k / c.n ∧ c.k / c.n ≤ 1099511627776 ∧ 0 ≤ c.k % c.n ∧ c.k % c.n < c.n ∧ c.k / c.n * c.n + c.k % c.n = c.k ∧ c.k.tdiv c.n = c.k / c.n ∧ c.k.tmod c.n = c.k % c.n := by
 obtain ⟨h1, _, _, _, h2, _⟩ := h
 have a1 := Int.ediv_nonneg h2.1 (show 0 ≤ c.n by omega)
 have a2 := Int.emod_nonneg c.k (show c.n ≠ 0 by omega)
 have a3 := Int.emod_lt_of_pos c.k (show 0 < c.n by omega)
 have a4 := Int.mul_ediv_add_emod c.k c.n
 rw [Int.mul_comm] at a4
 have a5 : c.k / c.n * 1 ≤ c.k / c.n * c.n := Int.mul_le_mul_of_nonneg_left (by omega) a1
 exact ⟨a1, by omega, a2, a3, a4, Int.tdiv_eq_ediv_of_nonneg h2.1, Int.tmod_eq_emod_of_nonneg h2.1⟩
theorem share_bnd (c : Conf) (w : Int) : 0 ≤ shareC c w ∧ shareC c w ≤ 1099511627777 := by
 unfold shareC
 split
 · rename_i h
   have := share_q h.1
   split <;> omega
 · omega
theorem share_call (c : Conf) (w : Int) : PCall Tryz.prog 105 [ConfA c, .c (.int .i64 w)] (.c (.int .i64 (shareC c w))) := by
 have m1 := rtmay_call c
 have m2 := there_call c w
 refine pcall_body tabOk Tryz.func105 rfl rfl (by rw [Tryz.ntmps105]; simp) ?_
 simp only [Tryz.ntmps105, ConfA]
 simp only [↓wt, wz, reduceAdd, reduceMul, reduceEqDiff, reduceLeDiff, Nat.reduceLT, reduceLE, reduceLT, reduceEq, reduceNe]
 refine icall_drop [] m1 ⟨arg_conf', trivial⟩ (.c _) ?_
 simp only [↓wt, wz, reduceAdd, reduceMul, reduceEqDiff, reduceLeDiff, Nat.reduceLT, reduceLE, reduceLT, reduceEq, reduceNe]
 repeat' (first | ((first | refine r_casesD (fun hp hb => ?_) (fun hp hb => ?_) | refine r_casesN (fun hp hb => ?_) (fun hp hb => ?_) | refine r_casesM (fun hp hb => ?_) (fun hp hb => ?_) | refine r_casesB (fun hp hb => ?_) (fun hp hb => ?_) | refine r_gcasesD (fun hp hb => ?_) (fun hp hb => ?_) | refine r_gcasesN (fun hp hb => ?_) (fun hp hb => ?_) | refine r_gcasesM (fun hp hb => ?_) (fun hp hb => ?_) | refine r_gcasesB (fun hp hb => ?_) (fun hp hb => ?_)) <;> simp only [↓wt, wz, reduceAdd, reduceMul, reduceEqDiff, reduceLeDiff, Nat.reduceLT, reduceLE, reduceLT, reduceEq, reduceNe, Tryz.results105, hb]) | ((with_reducible refine And.intro ?_ ?_); omega) | fail)
 · refine icall_drop [] m2 ⟨arg_conf', arg_c, trivial⟩ (.c _) ?_
   simp only [↓wt, wz, reduceAdd, reduceMul, reduceEqDiff, reduceLeDiff, Nat.reduceLT, reduceLE, reduceLT, reduceEq, reduceNe]
   repeat' (first | ((first | refine r_casesD (fun hp hb => ?_) (fun hp hb => ?_) | refine r_casesN (fun hp hb => ?_) (fun hp hb => ?_) | refine r_casesM (fun hp hb => ?_) (fun hp hb => ?_) | refine r_casesB (fun hp hb => ?_) (fun hp hb => ?_) | refine r_gcasesD (fun hp hb => ?_) (fun hp hb => ?_) | refine r_gcasesN (fun hp hb => ?_) (fun hp hb => ?_) | refine r_gcasesM (fun hp hb => ?_) (fun hp hb => ?_) | refine r_gcasesB (fun hp hb => ?_) (fun hp hb => ?_)) <;> simp only [↓wt, wz, reduceAdd, reduceMul, reduceEqDiff, reduceLeDiff, Nat.reduceLT, reduceLE, reduceLT, reduceEq, reduceNe, Tryz.results105, hb]) | ((with_reducible refine And.intro ?_ ?_); omega) | fail)
   · rename_i h1 _
     have hp0 := hp
     have hq := share_q h1
     have hn : 1 ≤ c.n ∧ c.n ≤ 16 := h1.1
     have e1 : IntKind.i64.wrap (c.k.tdiv c.n) = c.k / c.n := by rw [hq.2.2.2.2.2.1]; exact wrap_i64 (by omega) (by omega)
     have e2 : IntKind.i64.wrap (c.k / c.n + 1) = c.k / c.n + 1 := wrap_i64 (by omega) (by omega)
     refine ⟨by omega, ?_⟩
     simp only [hq.2.2.2.2.2.2]
     repeat' (first | ((first | refine r_casesD (fun hp hb => ?_) (fun hp hb => ?_) | refine r_casesN (fun hp hb => ?_) (fun hp hb => ?_) | refine r_casesM (fun hp hb => ?_) (fun hp hb => ?_) | refine r_casesB (fun hp hb => ?_) (fun hp hb => ?_) | refine r_gcasesD (fun hp hb => ?_) (fun hp hb => ?_) | refine r_gcasesN (fun hp hb => ?_) (fun hp hb => ?_) | refine r_gcasesM (fun hp hb => ?_) (fun hp hb => ?_) | refine r_gcasesB (fun hp hb => ?_) (fun hp hb => ?_)) <;> simp only [↓wt, wz, reduceAdd, reduceMul, reduceEqDiff, reduceLeDiff, Nat.reduceLT, reduceLE, reduceLT, reduceEq, reduceNe, e1, e2, Tryz.results105, hb]) | ((with_reducible refine And.intro ?_ ?_); omega) | fail)
     all_goals repeat (refine And.intro (by omega) ?_)
     · exact exp_i (by rw [shareC, if_pos ⟨h1, hp0⟩, if_pos (by assumption)])
     · exact exp_i (by rw [shareC, if_pos ⟨h1, hp0⟩, if_neg (by assumption)])
   · exact exp_i (by rw [shareC, if_neg fun h => hp h.2])
 · exact exp_i (by rw [shareC, if_neg fun h => hp h.1])
theorem rshare_call (c : Conf) (w : Int) : PCall Tryz.prog 111 [ConfA c, .c (.int .i64 w)] (.c (.int .i64 (shareC c w))) := by
 have m1 := rrtmay_call c
 refine pcall_body tabOk Tryz.func111 rfl rfl (by rw [Tryz.ntmps111]; simp) ?_
 simp only [Tryz.ntmps111, ConfA]
 simp only [↓wt, wz, reduceAdd, reduceMul, reduceEqDiff, reduceLeDiff, Nat.reduceLT, reduceLE, reduceLT, reduceEq, reduceNe]
 refine icall_drop [] m1 ⟨arg_conf', trivial⟩ (.c _) ?_
 simp only [↓wt, wz, reduceAdd, reduceMul, reduceEqDiff, reduceLeDiff, Nat.reduceLT, reduceLE, reduceLT, reduceEq, reduceNe]
 refine r_gcasesN (fun h1 hb => ?_) (fun h1 hb => ?_)
 · have hq := share_q h1
   have hn : 1 ≤ c.n ∧ c.n ≤ 16 := h1.1
   have hk : 0 ≤ c.k ∧ c.k ≤ 1099511627776 := h1.2.2.2.2.1
   have e1 : IntKind.i64.wrap (c.k.tdiv c.n) = c.k / c.n := by rw [hq.2.2.2.2.2.1]; exact wrap_i64 (by omega) (by omega)
   have e2 : IntKind.i64.wrap (c.k / c.n + 1) = c.k / c.n + 1 := wrap_i64 (by omega) (by omega)
   have e3 : IntKind.i64.wrap (c.k / c.n * c.n) = c.k / c.n * c.n := wrap_i64 (by omega) (by omega)
   have e4 : IntKind.i64.wrap (c.k - c.k / c.n * c.n) = c.k % c.n := by rw [wrap_i64 (by omega) (by omega)]; omega
   simp only [↓wt, wz, reduceAdd, reduceMul, reduceEqDiff, reduceLeDiff, Nat.reduceLT, reduceLE, reduceLT, reduceEq, reduceNe, hb]
   repeat' (first | ((first | refine r_casesD (fun hp hb => ?_) (fun hp hb => ?_) | refine r_casesN (fun hp hb => ?_) (fun hp hb => ?_) | refine r_casesM (fun hp hb => ?_) (fun hp hb => ?_) | refine r_casesB (fun hp hb => ?_) (fun hp hb => ?_) | refine r_gcasesD (fun hp hb => ?_) (fun hp hb => ?_) | refine r_gcasesN (fun hp hb => ?_) (fun hp hb => ?_) | refine r_gcasesM (fun hp hb => ?_) (fun hp hb => ?_) | refine r_gcasesB (fun hp hb => ?_) (fun hp hb => ?_)) <;> simp only [↓wt, wz, reduceAdd, reduceMul, reduceEqDiff, reduceLeDiff, Nat.reduceLT, reduceLE, reduceLT, reduceEq, reduceNe, e1, e2, e3, e4, Tryz.results111, hb]) | ((with_reducible refine And.intro ?_ ?_); omega) | fail)
   · exact exp_i (by rw [shareC, if_neg fun h => by have := h.2.1; omega])
   · exact exp_i (by rw [shareC, if_neg fun h => by have := h.2.2; omega])
   · exact exp_i (by rw [shareC, if_pos ⟨h1, by omega, by omega⟩, if_pos hp])
   · exact exp_i (by rw [shareC, if_pos ⟨h1, by omega, by omega⟩, if_neg hp])
 · simp only [↓wt, wz, reduceAdd, reduceMul, reduceEqDiff, reduceLeDiff, Nat.reduceLT, reduceLE, reduceLT, reduceEq, reduceNe, hb]
   repeat' (first | ((first | refine r_casesD (fun hp hb => ?_) (fun hp hb => ?_) | refine r_casesN (fun hp hb => ?_) (fun hp hb => ?_) | refine r_casesM (fun hp hb => ?_) (fun hp hb => ?_) | refine r_casesB (fun hp hb => ?_) (fun hp hb => ?_) | refine r_gcasesD (fun hp hb => ?_) (fun hp hb => ?_) | refine r_gcasesN (fun hp hb => ?_) (fun hp hb => ?_) | refine r_gcasesM (fun hp hb => ?_) (fun hp hb => ?_) | refine r_gcasesB (fun hp hb => ?_) (fun hp hb => ?_)) <;> simp only [↓wt, wz, reduceAdd, reduceMul, reduceEqDiff, reduceLeDiff, Nat.reduceLT, reduceLE, reduceLT, reduceEq, reduceNe, Tryz.results111, hb]) | ((with_reducible refine And.intro ?_ ?_); omega) | fail)
   exact exp_i (by rw [shareC, if_neg fun h => h1 h.1])
def shN (l : List RowD) (k : Nat) : Int := l.length + isum (fun j => (rowAt l j).o.length) k
def Wide (l : List RowD) : Prop := l.length < 4611686018427387904 ∧ ∀ k, (rowAt l k).o.length < 4611686018427387904
theorem shN_mono (l : List RowD) {k m : Nat} (h : k ≤ m) : shN l k ≤ shN l m := by
 unfold shN
 have := isum_mono (f := fun j => ((rowAt l j).o.length : Int)) (fun j => by omega) h
 omega
def ShortB (l : List RowD) : Prop := shN l l.length ≤ 400
instance (l : List RowD) : Decidable (ShortB l) := by unfold ShortB; infer_instance
theorem short_call (l : List RowD) (hw : Wide l) : PCall Tryz.prog 30 [BooksV l] (.c (.bool (decide (ShortB l)))) := by
 obtain ⟨w1, w2⟩ := hw
 refine pcall_body tabOk Tryz.func30 rfl rfl (by rw [Tryz.ntmps30]; simp) ?_
 simp only [Tryz.ntmps30, BooksV]
 simp only [↓wt, wz, reduceAdd, reduceMul, reduceEqDiff, reduceLeDiff, Nat.reduceLT, reduceLE, reduceLT, reduceEq, reduceNe]
 refine loop_ruleC tabOk [0] (fun k : Nat => [(3, .c (.int .i64 (shN l k))), (4, .c (.int .i64 k))]) (fun k => k ≤ l.length ∧ (k = 0 ∨ shN l (k - 1) ≤ 400)) (fun k => l.length - k) 0 ⟨by omega, .inl rfl⟩ ?_ ?_
 · simp only [↓wt, wz, wkf, reduceAdd, reduceMul, reduceEqDiff, reduceLeDiff, Nat.reduceLT, reduceLE, reduceLT, reduceEq, reduceNe, shN, isum, Int.add_zero, underL_R]
   try trivial
 · rintro k ⟨h1, h2⟩
   have hk0 : 0 ≤ shN l k ∧ shN l k < 4611686018427388304 := by
    have := shN_mono l (Nat.zero_le k)
    have h0 : shN l 0 = l.length := by simp [shN, isum]
    refine ⟨by omega, ?_⟩
    rcases h2 with rfl | h2
    · omega
    · cases k with
      | zero => omega
      | succ k =>
       have : shN l (k + 1) = shN l k + (rowAt l k).o.length := by simp only [shN, isum]; omega
       have := w2 k
       simp only [Nat.add_sub_cancel] at h2
       omega
   simp only [↓wt, wz, reduceAdd, reduceMul, reduceEqDiff, reduceLeDiff, Nat.reduceLT, reduceLE, reduceLT, reduceEq, reduceNe]
   repeat' (first | ((first | refine r_casesD (fun hp hb => ?_) (fun hp hb => ?_) | refine r_casesN (fun hp hb => ?_) (fun hp hb => ?_) | refine r_casesM (fun hp hb => ?_) (fun hp hb => ?_) | refine r_casesB (fun hp hb => ?_) (fun hp hb => ?_) | refine r_gcasesD (fun hp hb => ?_) (fun hp hb => ?_) | refine r_gcasesN (fun hp hb => ?_) (fun hp hb => ?_) | refine r_gcasesM (fun hp hb => ?_) (fun hp hb => ?_) | refine r_gcasesB (fun hp hb => ?_) (fun hp hb => ?_)) <;> simp only [↓wt, wz, reduceAdd, reduceMul, reduceEqDiff, reduceLeDiff, Nat.reduceLT, reduceLE, reduceLT, reduceEq, reduceNe, hb]) | ((with_reducible refine And.intro ?_ ?_); omega) | fail)
   · have e1 : IntKind.i64.wrap ((k : Int) + 1) = ((k + 1 : Nat) : Int) := by rw [wrap_i64 (by omega) (by omega)]; omega
     have e2 : IntKind.i64.wrap (shN l k + ((rowAt l k).o.length : Int)) = shN l (k + 1) := by
      have := w2 k
      rw [wrap_i64 (by omega) (by omega)]; simp only [shN, isum]; omega
     simp only [↓wt, wz, reduceAdd, reduceMul, reduceEqDiff, reduceLeDiff, Nat.reduceLT, reduceLE, reduceLT, reduceEq, reduceNe, elem_R, RowV_eq, e1, e2]
     repeat (refine And.intro (by omega) ?_)
     refine ⟨k + 1, ⟨by omega, .inr (by simpa using hp)⟩, by omega, ?_⟩
     simp only [↓wt, wz, wkf, reduceAdd, reduceMul, reduceEqDiff, reduceLeDiff, Nat.reduceLT, reduceLE, reduceLT, reduceEq, reduceNe, e1, e2, underL_R]
   · simp only [↓wt, wz, reduceAdd, reduceMul, reduceEqDiff, reduceLeDiff, Nat.reduceLT, reduceLE, reduceLT, reduceEq, reduceNe, Tryz.results30]
     refine exp_bF (p := ShortB l) ?_
     unfold ShortB
     have := shN_mono l h1
     omega
   · simp only [↓wt, wz, reduceAdd, reduceMul, reduceEqDiff, reduceLeDiff, Nat.reduceLT, reduceLE, reduceLT, reduceEq, reduceNe, Tryz.results30]
     have : k = l.length := by omega
     subst this
     exact exp_bE (q := shN l l.length ≤ 400) (p := ShortB l) Iff.rfl
def Lens (l : List RowD) : Prop := l.length < 1000000000 ∧ ∀ k, (rowAt l k).o.length < 1000000000
theorem rsameB_call (a b : List RowD) (ha : Lens a) : PCall Tryz.prog 26 [BooksV a, BooksV b] (.c (.bool (decide (a = b)))) := by
 obtain ⟨w1, w2⟩ := ha
 refine pcall_body tabOk Tryz.func26 rfl rfl (by rw [Tryz.ntmps26]; simp) ?_
 simp only [Tryz.ntmps26, BooksV]
 simp only [↓wt, wz, reduceAdd, reduceMul, reduceEqDiff, reduceLeDiff, Nat.reduceLT, reduceLE, reduceLT, reduceEq, reduceNe]
 repeat' (first | ((first | refine r_casesD (fun hp hb => ?_) (fun hp hb => ?_) | refine r_casesN (fun hp hb => ?_) (fun hp hb => ?_) | refine r_casesM (fun hp hb => ?_) (fun hp hb => ?_) | refine r_casesB (fun hp hb => ?_) (fun hp hb => ?_) | refine r_gcasesD (fun hp hb => ?_) (fun hp hb => ?_) | refine r_gcasesN (fun hp hb => ?_) (fun hp hb => ?_) | refine r_gcasesM (fun hp hb => ?_) (fun hp hb => ?_) | refine r_gcasesB (fun hp hb => ?_) (fun hp hb => ?_)) <;> simp only [↓wt, wz, reduceAdd, reduceMul, reduceEqDiff, reduceLeDiff, Nat.reduceLT, reduceLE, reduceLT, reduceEq, reduceNe, Tryz.results26, hb]) | ((with_reducible refine And.intro ?_ ?_); omega) | fail)
 · refine loop_ruleC tabOk [0, 1] (fun k : Nat => [(5, .c (.int .i64 k))]) (fun k => k ≤ a.length ∧ ∀ j, j < k → rowAt a j = rowAt b j) (fun k => a.length - k) 0 ⟨by omega, fun j h => by omega⟩ ?_ ?_
   · simp only [↓wt, wz, wkf, reduceAdd, reduceMul, reduceEqDiff, reduceLeDiff, Nat.reduceLT, reduceLE, reduceLT, reduceEq, reduceNe, underL_R]
     try trivial
   · rintro k ⟨h1, h2⟩
     simp only [↓wt, wz, reduceAdd, reduceMul, reduceEqDiff, reduceLeDiff, Nat.reduceLT, reduceLE, reduceLT, reduceEq, reduceNe]
     repeat' (first | ((first | refine r_casesD (fun hp hb => ?_) (fun hp hb => ?_) | refine r_casesN (fun hp hb => ?_) (fun hp hb => ?_) | refine r_casesM (fun hp hb => ?_) (fun hp hb => ?_) | refine r_casesB (fun hp hb => ?_) (fun hp hb => ?_) | refine r_gcasesD (fun hp hb => ?_) (fun hp hb => ?_) | refine r_gcasesN (fun hp hb => ?_) (fun hp hb => ?_) | refine r_gcasesM (fun hp hb => ?_) (fun hp hb => ?_) | refine r_gcasesB (fun hp hb => ?_) (fun hp hb => ?_)) <;> simp only [↓wt, wz, reduceAdd, reduceMul, reduceEqDiff, reduceLeDiff, Nat.reduceLT, reduceLE, reduceLT, reduceEq, reduceNe, hb]) | ((with_reducible refine And.intro ?_ ?_); omega) | fail)
     · have e1 : IntKind.i64.wrap ((k : Int) + 1) = ((k + 1 : Nat) : Int) := by rw [wrap_i64 (by omega) (by omega)]; omega
       have m1 := rsame_call (rowAt a k).i (rowAt a k).u (rowAt b k).i (rowAt b k).u (rowAt a k).o (rowAt b k).o (w2 k)
       refine draw_rule tabOk mixed [0, 0, 0, 0, 0, 0, 0, 0, 1, 0] [[], [], [0, 1], [0, 1, 2], [], [], [4, 5], [4, 5, 6], [0, 1, 2, 3, 4, 5, 6, 7], [0, 1, 2, 3, 4, 5, 6, 7, 8]] (by kernel_rfl) ?_
       simp only [↓wt, wz, reduceAdd, reduceMul, reduceEqDiff, reduceLeDiff, Nat.reduceLT, reduceLE, reduceLT, reduceEq, reduceNe, elem_R, RowV_eq, e1]
       repeat (refine And.intro (by omega) ?_)
       refine d_heavyC (icall_drop [] m1 ⟨arg_row, arg_row, trivial⟩ (.c _) ⟨rfl, rfl⟩) ?_
       simp only [↓wt, wz, reduceAdd, reduceMul, reduceEqDiff, reduceLeDiff, Nat.reduceLT, reduceLE, reduceLT, reduceEq, reduceNe]
       repeat' (first | ((first | refine r_casesD (fun hp hb => ?_) (fun hp hb => ?_) | refine r_casesN (fun hp hb => ?_) (fun hp hb => ?_) | refine r_casesM (fun hp hb => ?_) (fun hp hb => ?_) | refine r_casesB (fun hp hb => ?_) (fun hp hb => ?_) | refine r_gcasesD (fun hp hb => ?_) (fun hp hb => ?_) | refine r_gcasesN (fun hp hb => ?_) (fun hp hb => ?_) | refine r_gcasesM (fun hp hb => ?_) (fun hp hb => ?_) | refine r_gcasesB (fun hp hb => ?_) (fun hp hb => ?_)) <;> simp only [↓wt, wz, reduceAdd, reduceMul, reduceEqDiff, reduceLeDiff, Nat.reduceLT, reduceLE, reduceLT, reduceEq, reduceNe, hb]) | ((with_reducible refine And.intro ?_ ?_); omega) | fail)
       · refine ⟨k + 1, ⟨by omega, fun j hj => ?_⟩, by omega, ?_⟩
         · rcases Nat.lt_or_ge j k with h | h
           · exact h2 j h
           · have : j = k := by omega
             subst this
             generalize rowAt a j = x at hp ⊢
             generalize rowAt b j = y at hp ⊢
             obtain ⟨_, _, _⟩ := x
             obtain ⟨_, _, _⟩ := y
             simpa using hp
         · simp only [↓wt, wz, wkf, reduceAdd, reduceMul, reduceEqDiff, reduceLeDiff, Nat.reduceLT, reduceLE, reduceLT, reduceEq, reduceNe, e1, underL_R]
       · simp only [↓wt, wz, reduceAdd, reduceMul, reduceEqDiff, reduceLeDiff, Nat.reduceLT, reduceLE, reduceLT, reduceEq, reduceNe, Tryz.results26]
         refine exp_bF fun h => hp ?_
         rw [h]; exact ⟨rfl, rfl, rfl⟩
     · simp only [↓wt, wz, reduceAdd, reduceMul, reduceEqDiff, reduceLeDiff, Nat.reduceLT, reduceLE, reduceLT, reduceEq, reduceNe, Tryz.results26]
       exact exp_bT (p := a = b) (books_ext (by omega) fun j hj => h2 j (by omega))
 · exact exp_bF fun h => hp (by rw [h])
end Go.Ab
namespace Go.Ab
open Go Go.Proofs Go.RowKit
def came (l : List RowD) (w : Nat) (k : Nat) : Int := isum (fun j => (rowAt l j).o.getD w 0) k
def InW (l : List RowD) (w : Nat) : Prop := l.length ≤ 16 ∧ ∀ k, k < l.length → w < (rowAt l k).o.length ∧ Within ((rowAt l k).o.getD w 0) 1125899906842624
theorem came_bnd {l : List RowD} {w k : Nat} (h : InW l w) (hk : k ≤ l.length) : 0 ≤ came l w k ∧ came l w k ≤ 18014398509481984 := by
 have := isum_bnd (f := fun j => (rowAt l j).o.getD w 0) (lo := 0) (hi := 1125899906842624) (k := k) fun j hj => (h.2 j (by omega)).2
 have := h.1
 unfold came
 omega
theorem came_call (l : List RowD) (w : Nat) (h : InW l w) : PCall Tryz.prog 104 [.e [.l 3 (l.map RowV)], .e [.c (.int .i64 w)]] (.c (.int .i64 (came l w l.length))) := by
 refine pcall_body tabOk Tryz.func104 rfl rfl (by rw [Tryz.ntmps104]; simp) ?_
 simp only [Tryz.ntmps104]
 simp only [↓wt, wz, reduceAdd, reduceMul, reduceEqDiff, reduceLeDiff, Nat.reduceLT, reduceLE, reduceLT, reduceEq, reduceNe]
 refine loop_ruleC tabOk [1, 5, 6] (fun k : Nat => [(2, .c (.int .i64 (came l w k))), (7, .c (.int .i64 k))]) (fun k => k ≤ l.length) (fun k => l.length - k) 0 (by omega) ?_ ?_
 · simp only [↓wt, wz, wkf, reduceAdd, reduceMul, reduceEqDiff, reduceLeDiff, Nat.reduceLT, reduceLE, reduceLT, reduceEq, reduceNe, came, isum, underL_R, under_e]
   try trivial
 · intro k hk
   have h1 := h.1
   have h2 := fun hk => h.2 k hk
   have h3 := came_bnd h hk
   simp only [↓wt, wz, reduceAdd, reduceMul, reduceEqDiff, reduceLeDiff, Nat.reduceLT, reduceLE, reduceLT, reduceEq, reduceNe]
   repeat' (first | ((first | refine r_casesD (fun hp hb => ?_) (fun hp hb => ?_) | refine r_casesN (fun hp hb => ?_) (fun hp hb => ?_) | refine r_casesM (fun hp hb => ?_) (fun hp hb => ?_) | refine r_casesB (fun hp hb => ?_) (fun hp hb => ?_) | refine r_gcasesD (fun hp hb => ?_) (fun hp hb => ?_) | refine r_gcasesN (fun hp hb => ?_) (fun hp hb => ?_) | refine r_gcasesM (fun hp hb => ?_) (fun hp hb => ?_) | refine r_gcasesB (fun hp hb => ?_) (fun hp hb => ?_)) <;> simp only [↓wt, wz, reduceAdd, reduceMul, reduceEqDiff, reduceLeDiff, Nat.reduceLT, reduceLE, reduceLT, reduceEq, reduceNe, hb]) | ((with_reducible refine And.intro ?_ ?_); omega) | fail)
   · have hkl : k < l.length := by omega
     have h2 := h2 hkl
     have h4 := came_bnd h (show k + 1 ≤ l.length by omega)
     have e1 : IntKind.i64.wrap ((k : Int) + 1) = ((k + 1 : Nat) : Int) := by rw [wrap_i64 (by omega) (by omega)]; omega
     have e2 : IntKind.i64.wrap (came l w k + (rowAt l k).o.getD w 0) = came l w (k + 1) := by
      rw [wrap_i64 (by simp only [came, isum] at h4 ⊢; omega) (by simp only [came, isum] at h4 ⊢; omega)]; rfl
     simp only [↓wt, wz, reduceAdd, reduceMul, reduceEqDiff, reduceLeDiff, Nat.reduceLT, reduceLE, reduceLT, reduceEq, reduceNe, elem_R, RowV_eq, e1, e2]
     repeat (refine And.intro (by omega) ?_)
     refine ⟨k + 1, by omega, by omega, ?_⟩
     simp only [↓wt, wz, wkf, reduceAdd, reduceMul, reduceEqDiff, reduceLeDiff, Nat.reduceLT, reduceLE, reduceLT, reduceEq, reduceNe, e1, e2, underL_R, under_e]
   · simp only [↓wt, wz, reduceAdd, reduceMul, reduceEqDiff, reduceLeDiff, Nat.reduceLT, reduceLE, reduceLT, reduceEq, reduceNe, Tryz.results104]
     have : k = l.length := by omega
     subst this
     exact exp_c
def RowsOk (c : Conf) (l : List RowD) : Prop := (l.length : Int) = c.n ∧ ∀ k, k < l.length → MayR (rowAt l k).i (rowAt l k).u (rowAt l k).o c.n k ∧ (rowAt l k).i ≤ c.c
def ofC (c : Conf) (l : List RowD) (w : Nat) : Int := shareC c w + (rowAt l w).i + came l w l.length - sentR (rowAt l w).o - (rowAt l w).u
instance (c : Conf) (l : List RowD) : Decidable (RowsOk c l) := by unfold RowsOk; infer_instance
theorem RowsOk.inW {c : Conf} {l : List RowD} (hc : MayC c) (h : RowsOk c l) {w : Nat} (hw : w < l.length) : InW l w := by
 have hn := hc.1
 refine ⟨by have := h.1; omega, fun k hk => ?_⟩
 obtain ⟨⟨_, h2, _, _, _, h3⟩, _⟩ := h.2 k hk
 have h1 := h.1
 have hwl : w < (rowAt l k).o.length := by omega
 refine ⟨hwl, ?_⟩
 rw [List.getD_eq_getElem?_getD, List.getElem?_eq_getElem hwl]
 exact h3 _ (List.getElem_mem hwl)
theorem RowsOk.row {c : Conf} {l : List RowD} (hc : MayC c) (h : RowsOk c l) {w : Nat} (hw : w < l.length) : (rowAt l w).o.length = l.length ∧ l.length ≤ 16 ∧ (0 ≤ (rowAt l w).i ∧ (rowAt l w).i ≤ 1099511627776) ∧ (0 ≤ (rowAt l w).u ∧ (rowAt l w).u ≤ 1099511627776) ∧
 (∀ v ∈ (rowAt l w).o, Within v 1125899906842624) ∧ (rowAt l w).o.getD w 0 = 0 ∧ (rowAt l w).i ≤ c.c := by
 have hn := hc.1
 obtain ⟨⟨_, h2, h3, h4, h5, h6⟩, h7⟩ := h.2 w hw
 have h1 := h.1
 exact ⟨by omega, by omega, h3, h4, h6, by simpa using h5, h7⟩
theorem sent_bnd (o : List Int) : 0 ≤ sentR o ∧ sentR o ≤ 18014398509481984 := by
 unfold sentR
 split
 · rename_i h
   have := sum_in o h.2
   have h1 := h.1
   refine ⟨this.1, ?_⟩
   have h2 : (o.length : Int) * 1125899906842624 ≤ 16 * 1125899906842624 := Int.mul_le_mul_of_nonneg_right (by omega) (by omega)
   omega
 · omega
theorem of_call (c : Conf) (l : List RowD) (w : Nat) (hc : MayC c) (h : RowsOk c l) (hw : w < l.length) : PCall Tryz.prog 75 [ConfA c, BooksV l, .c (.int .i64 w)] (.c (.int .i64 (ofC c l w))) := by
 have hr := h.row hc hw
 have m1 := share_call c w
 have m2 := came_call l w (h.inW hc hw)
 have m3 := sent_call (rowAt l w).i (rowAt l w).u (rowAt l w).o (by omega)
 have b1 := share_bnd c w
 have b2 := came_bnd (h.inW hc hw) (Nat.le_refl _)
 have b3 := sent_bnd (rowAt l w).o
 refine pcall_body tabOk Tryz.func75 rfl rfl (by rw [Tryz.ntmps75]; simp) ?_
 simp only [Tryz.ntmps75, ConfA, BooksV]
 simp only [↓wt, wz, reduceAdd, reduceMul, reduceEqDiff, reduceLeDiff, Nat.reduceLT, reduceLE, reduceLT, reduceEq, reduceNe]
 refine freeze_rule 0 [3, 4, 5, 7] (by simp only [↓wt, wz, reduceAdd, reduceMul, reduceEqDiff, reduceLeDiff, Nat.reduceLT, reduceLE, reduceLT, reduceEq, reduceNe, underL_R]; (try (repeat' (first | (exact fun _ => by simp only [pureL_eq, underL_cons, underL_nil, AV.cells, under_l, under_c, under_g, under_e, under_f, underL_B, underL_I, underL_Bs, under_Bs, List.mem_cons, List.not_mem_nil, or_false, forall_eq_or_imp, forall_eq, and_self, and_true, true_and, underL_R]) | ((with_reducible refine And.intro ?_ ?_)) | (intro _) | omega | (simp only [pureL_eq, underL_cons, underL_nil, AV.cells, under_l, under_c, under_g, under_e, under_f, underL_B, underL_I, underL_Bs, under_Bs, List.mem_cons, List.not_mem_nil, or_false, forall_eq_or_imp, forall_eq, and_self, and_true, true_and, underL_R])))); done) (by simp only [↓wt, wz, reduceAdd, reduceMul, reduceEqDiff, reduceLeDiff, Nat.reduceLT, reduceLE, reduceLT, reduceEq, reduceNe, underL_R]; (try (repeat' (first | (exact fun _ => by simp only [pureL_eq, underL_cons, underL_nil, AV.cells, under_l, under_c, under_g, under_e, under_f, underL_B, underL_I, underL_Bs, under_Bs, List.mem_cons, List.not_mem_nil, or_false, forall_eq_or_imp, forall_eq, and_self, and_true, true_and, underL_R]) | ((with_reducible refine And.intro ?_ ?_)) | (intro _) | omega | (simp only [pureL_eq, underL_cons, underL_nil, AV.cells, under_l, under_c, under_g, under_e, under_f, underL_B, underL_I, underL_Bs, under_Bs, List.mem_cons, List.not_mem_nil, or_false, forall_eq_or_imp, forall_eq, and_self, and_true, true_and, underL_R])))); done) ?_; simp only [↓wt, wz, reduceAdd, reduceMul, reduceEqDiff, reduceLeDiff, Nat.reduceLT, reduceLE, reduceLT, reduceEq, reduceNe, underL_R]; refine freeze_rule 1 [3, 4, 5, 7] (by simp only [↓wt, wz, reduceAdd, reduceMul, reduceEqDiff, reduceLeDiff, Nat.reduceLT, reduceLE, reduceLT, reduceEq, reduceNe, underL_R]; (try (repeat' (first | (exact fun _ => by simp only [pureL_eq, underL_cons, underL_nil, AV.cells, under_l, under_c, under_g, under_e, under_f, underL_B, underL_I, underL_Bs, under_Bs, List.mem_cons, List.not_mem_nil, or_false, forall_eq_or_imp, forall_eq, and_self, and_true, true_and, underL_R]) | ((with_reducible refine And.intro ?_ ?_)) | (intro _) | omega | (simp only [pureL_eq, underL_cons, underL_nil, AV.cells, under_l, under_c, under_g, under_e, under_f, underL_B, underL_I, underL_Bs, under_Bs, List.mem_cons, List.not_mem_nil, or_false, forall_eq_or_imp, forall_eq, and_self, and_true, true_and, underL_R])))); done) (by simp only [↓wt, wz, reduceAdd, reduceMul, reduceEqDiff, reduceLeDiff, Nat.reduceLT, reduceLE, reduceLT, reduceEq, reduceNe, underL_R]; (try (repeat' (first | (exact fun _ => by simp only [pureL_eq, underL_cons, underL_nil, AV.cells, under_l, under_c, under_g, under_e, under_f, underL_B, underL_I, underL_Bs, under_Bs, List.mem_cons, List.not_mem_nil, or_false, forall_eq_or_imp, forall_eq, and_self, and_true, true_and, underL_R]) | ((with_reducible refine And.intro ?_ ?_)) | (intro _) | omega | (simp only [pureL_eq, underL_cons, underL_nil, AV.cells, under_l, under_c, under_g, under_e, under_f, underL_B, underL_I, underL_Bs, under_Bs, List.mem_cons, List.not_mem_nil, or_false, forall_eq_or_imp, forall_eq, and_self, and_true, true_and, underL_R])))); done) ?_; simp only [↓wt, wz, reduceAdd, reduceMul, reduceEqDiff, reduceLeDiff, Nat.reduceLT, reduceLE, reduceLT, reduceEq, reduceNe, underL_R]; refine freeze_rule 2 [3, 4, 5, 7] (by simp only [↓wt, wz, reduceAdd, reduceMul, reduceEqDiff, reduceLeDiff, Nat.reduceLT, reduceLE, reduceLT, reduceEq, reduceNe, underL_R]; (try (repeat' (first | (exact fun _ => by simp only [pureL_eq, underL_cons, underL_nil, AV.cells, under_l, under_c, under_g, under_e, under_f, underL_B, underL_I, underL_Bs, under_Bs, List.mem_cons, List.not_mem_nil, or_false, forall_eq_or_imp, forall_eq, and_self, and_true, true_and, underL_R]) | ((with_reducible refine And.intro ?_ ?_)) | (intro _) | omega | (simp only [pureL_eq, underL_cons, underL_nil, AV.cells, under_l, under_c, under_g, under_e, under_f, underL_B, underL_I, underL_Bs, under_Bs, List.mem_cons, List.not_mem_nil, or_false, forall_eq_or_imp, forall_eq, and_self, and_true, true_and, underL_R])))); done) (by simp only [↓wt, wz, reduceAdd, reduceMul, reduceEqDiff, reduceLeDiff, Nat.reduceLT, reduceLE, reduceLT, reduceEq, reduceNe, underL_R]; (try (repeat' (first | (exact fun _ => by simp only [pureL_eq, underL_cons, underL_nil, AV.cells, under_l, under_c, under_g, under_e, under_f, underL_B, underL_I, underL_Bs, under_Bs, List.mem_cons, List.not_mem_nil, or_false, forall_eq_or_imp, forall_eq, and_self, and_true, true_and, underL_R]) | ((with_reducible refine And.intro ?_ ?_)) | (intro _) | omega | (simp only [pureL_eq, underL_cons, underL_nil, AV.cells, under_l, under_c, under_g, under_e, under_f, underL_B, underL_I, underL_Bs, under_Bs, List.mem_cons, List.not_mem_nil, or_false, forall_eq_or_imp, forall_eq, and_self, and_true, true_and, underL_R])))); done) ?_; simp only [↓wt, wz, reduceAdd, reduceMul, reduceEqDiff, reduceLeDiff, Nat.reduceLT, reduceLE, reduceLT, reduceEq, reduceNe, underL_R]
 refine draw_rule tabOk mixed [0, 0, 1, 0, 0, 0, 0, 0, 0, 0, 1, 0, 0, 0, 0, 0, 1, 0, 0, 0, 0, 0, 0, 0, 0] [[], [], [0, 1], [], [], [3, 4], [3, 4, 5], [3, 4, 5, 6], [0, 1, 2, 3, 4, 5, 6, 7], [], [0, 1, 2, 9], [0, 1, 2, 3, 4, 5, 6, 7, 8, 9, 10], [], [], [12, 13], [12, 13, 14], [0, 1, 2, 9, 10, 12, 13, 14, 15], [0, 1, 2, 3, 4, 5, 6, 7, 8, 9, 10, 11, 12, 13, 14, 15, 16], [], [], [18, 19], [18, 19, 20], [18, 19, 20, 21], [0, 1, 2, 3, 4, 5, 6, 7, 8, 9, 10, 11, 12, 13, 14, 15, 16, 17, 18, 19, 20, 21, 22], [0, 1, 2, 3, 4, 5, 6, 7, 8, 9, 10, 11, 12, 13, 14, 15, 16, 17, 18, 19, 20, 21, 22, 23]] (by kernel_rfl) ?_
 simp only [↓wt, wz, reduceAdd, reduceMul, reduceEqDiff, reduceLeDiff, Nat.reduceLT, reduceLE, reduceLT, reduceEq, reduceNe]
 refine d_heavyC (icall_drop [] m1 ⟨arg_conf', arg_c, trivial⟩ (.c _) ⟨rfl, rfl⟩) ?_
 simp only [↓wt, wz, reduceAdd, reduceMul, reduceEqDiff, reduceLeDiff, Nat.reduceLT, reduceLE, reduceLT, reduceEq, reduceNe, elem_R, RowV_eq]
 repeat (refine And.intro (by omega) ?_)
 refine d_heavyV rfl (icall_drop (args' := [.e [.l 3 (l.map RowV)], .e [.c (.int .i64 w)]]) [] m2 ⟨arg_e (by simp only [underL_R, under_l, under_c, List.mem_cons, List.not_mem_nil, or_false, forall_eq]), arg_e (by simp only [underL_R, under_l, under_c, List.mem_cons, List.not_mem_nil, or_false, forall_eq]), trivial⟩ (.c _) ⟨rfl, rfl⟩) ?_
 simp only [↓wt, wz, reduceAdd, reduceMul, reduceEqDiff, reduceLeDiff, Nat.reduceLT, reduceLE, reduceLT, reduceEq, reduceNe, elem_R, RowV_eq]
 repeat (refine And.intro (by omega) ?_)
 refine d_heavyC (icall_drop [] m3 ⟨arg_row, trivial⟩ (.c _) ⟨rfl, rfl⟩) ?_
 have e1 : IntKind.i64.wrap (shareC c w + (rowAt l w).i) = shareC c w + (rowAt l w).i := wrap_i64 (by omega) (by omega)
 have e2 : IntKind.i64.wrap (shareC c w + (rowAt l w).i + came l w l.length) = shareC c w + (rowAt l w).i + came l w l.length := wrap_i64 (by omega) (by omega)
 have e3 : IntKind.i64.wrap (shareC c w + (rowAt l w).i + came l w l.length - sentR (rowAt l w).o) = shareC c w + (rowAt l w).i + came l w l.length - sentR (rowAt l w).o := wrap_i64 (by omega) (by omega)
 have e4 : IntKind.i64.wrap (shareC c w + (rowAt l w).i + came l w l.length - sentR (rowAt l w).o - (rowAt l w).u) = ofC c l w := wrap_i64 (by omega) (by omega)
 simp only [↓wt, wz, reduceAdd, reduceMul, reduceEqDiff, reduceLeDiff, Nat.reduceLT, reduceLE, reduceLT, reduceEq, reduceNe, elem_R, RowV_eq, e1, e2, e3, e4]
 repeat (refine And.intro (by omega) ?_)
 simp only [↓wt, wz, reduceAdd, reduceMul, reduceEqDiff, reduceLeDiff, Nat.reduceLT, reduceLE, reduceLT, reduceEq, reduceNe, Tryz.results75]
 exact exp_c
end Go.Ab
namespace Go.Ab
open Go Go.Proofs Go.RowKit
theorem wi_succ {k : Nat} (h : k < 1000000000000000000) : IntKind.i64.wrap ((k : Int) + 1) = ((k + 1 : Nat) : Int) := by rw [wrap_i64 (by omega) (by omega)]; omega
theorem sent_isum {o : List Int} (hl : o.length ≤ 16) (h : ∀ v ∈ o, Within v 1125899906842624) : sentR o = isum (fun j => o.getD j 0) o.length := by
 rw [isum_getD, sentR, if_pos ⟨hl, h⟩]
theorem within_getD {o : List Int} (h : ∀ v ∈ o, Within v 1125899906842624) (k : Nat) : Within (o.getD k 0) 1125899906842624 := by
 rw [List.getD_eq_getElem?_getD]
 by_cases hk : k < o.length
 · rw [List.getElem?_eq_getElem hk]; exact h _ (List.getElem_mem hk)
 · rw [List.getElem?_eq_none (by omega)]; exact ⟨by decide, by decide⟩
def flow (l : List RowD) (w : Nat) (k : Nat) : Int := isum (fun j => (rowAt l j).o.getD w 0 - (rowAt l w).o.getD j 0) k
theorem flow_eq (l : List RowD) (w k : Nat) : flow l w k = came l w k - isum (fun j => (rowAt l w).o.getD j 0) k := isum_sub _ _ _
theorem rof_call (c : Conf) (l : List RowD) (w : Nat) (hc : MayC c) (h : RowsOk c l) (hw : w < l.length) : PCall Tryz.prog 90 [ConfA c, BooksV l, .c (.int .i64 w)] (.c (.int .i64 (ofC c l w))) := by
 have hr := h.row hc hw
 have hi := h.inW hc hw
 have m1 := rshare_call c w
 have b1 := share_bnd c w
 have b2 : ∀ k, k ≤ l.length → -18014398509481984 ≤ flow l w k ∧ flow l w k ≤ 18014398509481984 := fun k hk => by
  have := came_bnd hi hk
  have := isum_bnd (f := fun j => (rowAt l w).o.getD j 0) (lo := 0) (hi := 1125899906842624) (k := k) fun j hj => within_getD hr.2.2.2.2.1 j
  rw [flow_eq]; omega
 refine pcall_body tabOk Tryz.func90 rfl rfl (by rw [Tryz.ntmps90]; simp) ?_
 simp only [Tryz.ntmps90, ConfA, BooksV]
 simp only [↓wt, wz, reduceAdd, reduceMul, reduceEqDiff, reduceLeDiff, Nat.reduceLT, reduceLE, reduceLT, reduceEq, reduceNe]
 refine freeze_rule 0 [1, 2, 3] (by simp only [↓wt, wz, reduceAdd, reduceMul, reduceEqDiff, reduceLeDiff, Nat.reduceLT, reduceLE, reduceLT, reduceEq, reduceNe, underL_R]; (try (repeat' (first | (exact fun _ => by simp only [pureL_eq, underL_cons, underL_nil, AV.cells, under_l, under_c, under_g, under_e, under_f, underL_B, underL_I, underL_Bs, under_Bs, List.mem_cons, List.not_mem_nil, or_false, forall_eq_or_imp, forall_eq, and_self, and_true, true_and, underL_R]) | ((with_reducible refine And.intro ?_ ?_)) | (intro _) | omega | (simp only [pureL_eq, underL_cons, underL_nil, AV.cells, under_l, under_c, under_g, under_e, under_f, underL_B, underL_I, underL_Bs, under_Bs, List.mem_cons, List.not_mem_nil, or_false, forall_eq_or_imp, forall_eq, and_self, and_true, true_and, underL_R])))); done) (by simp only [↓wt, wz, reduceAdd, reduceMul, reduceEqDiff, reduceLeDiff, Nat.reduceLT, reduceLE, reduceLT, reduceEq, reduceNe, underL_R]; (try (repeat' (first | (exact fun _ => by simp only [pureL_eq, underL_cons, underL_nil, AV.cells, under_l, under_c, under_g, under_e, under_f, underL_B, underL_I, underL_Bs, under_Bs, List.mem_cons, List.not_mem_nil, or_false, forall_eq_or_imp, forall_eq, and_self, and_true, true_and, underL_R]) | ((with_reducible refine And.intro ?_ ?_)) | (intro _) | omega | (simp only [pureL_eq, underL_cons, underL_nil, AV.cells, under_l, under_c, under_g, under_e, under_f, underL_B, underL_I, underL_Bs, under_Bs, List.mem_cons, List.not_mem_nil, or_false, forall_eq_or_imp, forall_eq, and_self, and_true, true_and, underL_R])))); done) ?_; simp only [↓wt, wz, reduceAdd, reduceMul, reduceEqDiff, reduceLeDiff, Nat.reduceLT, reduceLE, reduceLT, reduceEq, reduceNe, underL_R]
 refine draw_rule tabOk mixed [0, 0, 1, 0, 0, 0, 0, 0, 0, 0, 0, 0, 0, 0, 0, 0] [[], [], [0, 1], [], [], [3, 4], [3, 4, 5], [3, 4, 5, 6], [0, 1, 2, 3, 4, 5, 6, 7], [], [], [9, 10], [9, 10, 11], [9, 10, 11, 12], [0, 1, 2, 3, 4, 5, 6, 7, 8, 9, 10, 11, 12, 13], [0, 1, 2, 3, 4, 5, 6, 7, 8, 9, 10, 11, 12, 13, 14]] (by kernel_rfl) ?_
 simp only [↓wt, wz, reduceAdd, reduceMul, reduceEqDiff, reduceLeDiff, Nat.reduceLT, reduceLE, reduceLT, reduceEq, reduceNe]
 refine d_heavyC (icall_drop [] m1 ⟨arg_conf', arg_c, trivial⟩ (.c _) ⟨rfl, rfl⟩) ?_
 have e1 : IntKind.i64.wrap (shareC c w + (rowAt l w).i) = shareC c w + (rowAt l w).i := wrap_i64 (by omega) (by omega)
 have e2 : IntKind.i64.wrap (shareC c w + (rowAt l w).i - (rowAt l w).u) = shareC c w + (rowAt l w).i - (rowAt l w).u := wrap_i64 (by omega) (by omega)
 simp only [↓wt, wz, reduceAdd, reduceMul, reduceEqDiff, reduceLeDiff, Nat.reduceLT, reduceLE, reduceLT, reduceEq, reduceNe, elem_R, RowV_eq, e1, e2]
 repeat (refine And.intro (by omega) ?_)
 refine loop_ruleC tabOk [1, 2] (fun k : Nat => [(7, .c (.int .i64 (shareC c w + (rowAt l w).i - (rowAt l w).u + flow l w k))), (8, .c (.int .i64 k))]) (fun k => k ≤ l.length) (fun k => l.length - k) 0 (by omega) ?_ ?_
 · simp only [↓wt, wz, wkf, reduceAdd, reduceMul, reduceEqDiff, reduceLeDiff, Nat.reduceLT, reduceLE, reduceLT, reduceEq, reduceNe, flow, isum, underL_R, under_e, Int.add_zero]
   try trivial
 · intro k hk
   simp only [↓wt, wz, reduceAdd, reduceMul, reduceEqDiff, reduceLeDiff, Nat.reduceLT, reduceLE, reduceLT, reduceEq, reduceNe]
   repeat' (first | ((first | refine r_casesD (fun hp hb => ?_) (fun hp hb => ?_) | refine r_casesN (fun hp hb => ?_) (fun hp hb => ?_) | refine r_casesM (fun hp hb => ?_) (fun hp hb => ?_) | refine r_casesB (fun hp hb => ?_) (fun hp hb => ?_) | refine r_gcasesD (fun hp hb => ?_) (fun hp hb => ?_) | refine r_gcasesN (fun hp hb => ?_) (fun hp hb => ?_) | refine r_gcasesM (fun hp hb => ?_) (fun hp hb => ?_) | refine r_gcasesB (fun hp hb => ?_) (fun hp hb => ?_)) <;> simp only [↓wt, wz, reduceAdd, reduceMul, reduceEqDiff, reduceLeDiff, Nat.reduceLT, reduceLE, reduceLT, reduceEq, reduceNe, hb]) | ((with_reducible refine And.intro ?_ ?_); omega) | fail)
   · have hkl : k < l.length := by omega
     have e3 := wi_succ (k := k) (by omega)
     have hik := hi.2 k hkl
     have hwk := within_getD hr.2.2.2.2.1 k
     have b3 := b2 k hk
     have b4 := b2 (k + 1) hkl
     have hf : flow l w (k + 1) = flow l w k + ((rowAt l k).o.getD w 0 - (rowAt l w).o.getD k 0) := rfl
     unfold Within at hik hwk
     have e4 : IntKind.i64.wrap (shareC c w + (rowAt l w).i - (rowAt l w).u + flow l w k + (rowAt l k).o.getD w 0) = shareC c w + (rowAt l w).i - (rowAt l w).u + flow l w k + (rowAt l k).o.getD w 0 := wrap_i64 (by omega) (by omega)
     have e5 : IntKind.i64.wrap (shareC c w + (rowAt l w).i - (rowAt l w).u + flow l w k + (rowAt l k).o.getD w 0 - (rowAt l w).o.getD k 0) = shareC c w + (rowAt l w).i - (rowAt l w).u + flow l w (k + 1) := by rw [wrap_i64 (by omega) (by omega)]; omega
     refine draw_rule tabOk mixed [0, 0, 0, 0, 0, 0, 0, 0, 0, 0, 0, 0, 0, 0, 0, 0, 0, 0, 0, 0] [[], [], [], [1, 2], [1, 2, 3], [1, 2, 3, 4], [], [1, 2, 3, 4, 5, 6], [1, 2, 3, 4, 5, 6, 7], [0, 1, 2, 3, 4, 5, 6, 7, 8], [], [], [10, 11], [10, 11, 12], [10, 11, 12, 13], [], [10, 11, 12, 13, 14, 15], [10, 11, 12, 13, 14, 15, 16], [0, 1, 2, 3, 4, 5, 6, 7, 8, 9, 10, 11, 12, 13, 14, 15, 16, 17], [0, 1, 2, 3, 4, 5, 6, 7, 8, 9, 10, 11, 12, 13, 14, 15, 16, 17, 18]] (by kernel_rfl) ?_
     simp only [↓wt, wz, reduceAdd, reduceMul, reduceEqDiff, reduceLeDiff, Nat.reduceLT, reduceLE, reduceLT, reduceEq, reduceNe, elem_R, RowV_eq, e3, e4, e5]
     repeat (refine And.intro (by omega) ?_)
     refine ⟨k + 1, by omega, by omega, ?_⟩
     simp only [↓wt, wz, wkf, reduceAdd, reduceMul, reduceEqDiff, reduceLeDiff, Nat.reduceLT, reduceLE, reduceLT, reduceEq, reduceNe, e3, e4, e5, underL_R, under_e]
   · simp only [↓wt, wz, reduceAdd, reduceMul, reduceEqDiff, reduceLeDiff, Nat.reduceLT, reduceLE, reduceLT, reduceEq, reduceNe, Tryz.results90]
     have : k = l.length := by omega
     subst this
     refine exp_i ?_
     have h3 := sent_isum (by omega) hr.2.2.2.2.1
     rw [hr.1] at h3
     rw [flow_eq, ← h3]
     unfold ofC; omega
def RightB (c : Conf) (l : List RowD) : Prop := MayC c ∧ RowsOk c l ∧ ∀ k, k < l.length → 0 ≤ ofC c l k
instance (c : Conf) (l : List RowD) : Decidable (RightB c l) := by unfold RightB; infer_instance
set_option maxHeartbeats 2000000 in
theorem right_call (c : Conf) (l : List RowD) (hl : Lens l) : PCall Tryz.prog 42 [ConfA c, BooksV l] (.c (.bool (decide (RightB c l)))) := by
 have m1 := rtmay_call c
 have hl1 := hl.1
 refine pcall_body tabOk Tryz.func42 rfl rfl (by rw [Tryz.ntmps42]; simp) ?_
 simp only [Tryz.ntmps42, ConfA, BooksV]
 simp only [↓wt, wz, reduceAdd, reduceMul, reduceEqDiff, reduceLeDiff, Nat.reduceLT, reduceLE, reduceLT, reduceEq, reduceNe]
 refine icall_drop [] m1 ⟨arg_conf', trivial⟩ (.c _) ?_
 simp only [↓wt, wz, reduceAdd, reduceMul, reduceEqDiff, reduceLeDiff, Nat.reduceLT, reduceLE, reduceLT, reduceEq, reduceNe]
 refine r_gcasesN (fun hc hb => ?_) (fun hc hb => ?_) <;> simp only [↓wt, wz, reduceAdd, reduceMul, reduceEqDiff, reduceLeDiff, Nat.reduceLT, reduceLE, reduceLT, reduceEq, reduceNe, hb]
 rotate_left
 · simp only [↓wt, wz, reduceAdd, reduceMul, reduceEqDiff, reduceLeDiff, Nat.reduceLT, reduceLE, reduceLT, reduceEq, reduceNe, Tryz.results42]
   exact exp_bF (p := RightB c l) fun h => hc h.1
 repeat' (first | ((first | refine r_casesD (fun hp hb => ?_) (fun hp hb => ?_) | refine r_casesN (fun hp hb => ?_) (fun hp hb => ?_) | refine r_casesM (fun hp hb => ?_) (fun hp hb => ?_) | refine r_casesB (fun hp hb => ?_) (fun hp hb => ?_) | refine r_gcasesD (fun hp hb => ?_) (fun hp hb => ?_) | refine r_gcasesN (fun hp hb => ?_) (fun hp hb => ?_) | refine r_gcasesM (fun hp hb => ?_) (fun hp hb => ?_) | refine r_gcasesB (fun hp hb => ?_) (fun hp hb => ?_)) <;> simp only [↓wt, wz, reduceAdd, reduceMul, reduceEqDiff, reduceLeDiff, Nat.reduceLT, reduceLE, reduceLT, reduceEq, reduceNe, Tryz.results42, hb]) | ((with_reducible refine And.intro ?_ ?_); omega) | fail)
 rotate_left
 · exact exp_bF (p := RightB c l) fun h => hp h.2.1.1
 have hn := hc.1
 refine freeze_rule 0 [1, 2, 18, 19, 20] (by simp only [↓wt, wz, reduceAdd, reduceMul, reduceEqDiff, reduceLeDiff, Nat.reduceLT, reduceLE, reduceLT, reduceEq, reduceNe, underL_R]; (try (repeat' (first | (exact fun _ => by simp only [pureL_eq, underL_cons, underL_nil, AV.cells, under_l, under_c, under_g, under_e, under_f, underL_B, underL_I, underL_Bs, under_Bs, List.mem_cons, List.not_mem_nil, or_false, forall_eq_or_imp, forall_eq, and_self, and_true, true_and, underL_R]) | ((with_reducible refine And.intro ?_ ?_)) | (intro _) | omega | (simp only [pureL_eq, underL_cons, underL_nil, AV.cells, under_l, under_c, under_g, under_e, under_f, underL_B, underL_I, underL_Bs, under_Bs, List.mem_cons, List.not_mem_nil, or_false, forall_eq_or_imp, forall_eq, and_self, and_true, true_and, underL_R])))); done) (by simp only [↓wt, wz, reduceAdd, reduceMul, reduceEqDiff, reduceLeDiff, Nat.reduceLT, reduceLE, reduceLT, reduceEq, reduceNe, underL_R]; (try (repeat' (first | (exact fun _ => by simp only [pureL_eq, underL_cons, underL_nil, AV.cells, under_l, under_c, under_g, under_e, under_f, underL_B, underL_I, underL_Bs, under_Bs, List.mem_cons, List.not_mem_nil, or_false, forall_eq_or_imp, forall_eq, and_self, and_true, true_and, underL_R]) | ((with_reducible refine And.intro ?_ ?_)) | (intro _) | omega | (simp only [pureL_eq, underL_cons, underL_nil, AV.cells, under_l, under_c, under_g, under_e, under_f, underL_B, underL_I, underL_Bs, under_Bs, List.mem_cons, List.not_mem_nil, or_false, forall_eq_or_imp, forall_eq, and_self, and_true, true_and, underL_R])))); done) ?_; simp only [↓wt, wz, reduceAdd, reduceMul, reduceEqDiff, reduceLeDiff, Nat.reduceLT, reduceLE, reduceLT, reduceEq, reduceNe, underL_R]
 refine loop_ruleC tabOk [1, 2, 18, 19] (fun k : Nat => [(20, .c (.int .i64 k))]) (fun k => k ≤ l.length ∧ ∀ j, j < k → MayR (rowAt l j).i (rowAt l j).u (rowAt l j).o c.n j ∧ (rowAt l j).i ≤ c.c) (fun k => l.length - k) 0 ⟨by omega, fun j h => by omega⟩ ?_ ?_
 · simp only [↓wt, wz, wkf, reduceAdd, reduceMul, reduceEqDiff, reduceLeDiff, Nat.reduceLT, reduceLE, reduceLT, reduceEq, reduceNe, underL_R, under_e]
 · rintro k ⟨hk, hG⟩
   simp only [↓wt, wz, reduceAdd, reduceMul, reduceEqDiff, reduceLeDiff, Nat.reduceLT, reduceLE, reduceLT, reduceEq, reduceNe]
   repeat' (first | ((first | refine r_casesD (fun hp hb => ?_) (fun hp hb => ?_) | refine r_casesN (fun hp hb => ?_) (fun hp hb => ?_) | refine r_casesM (fun hp hb => ?_) (fun hp hb => ?_) | refine r_casesB (fun hp hb => ?_) (fun hp hb => ?_) | refine r_gcasesD (fun hp hb => ?_) (fun hp hb => ?_) | refine r_gcasesN (fun hp hb => ?_) (fun hp hb => ?_) | refine r_gcasesM (fun hp hb => ?_) (fun hp hb => ?_) | refine r_gcasesB (fun hp hb => ?_) (fun hp hb => ?_)) <;> simp only [↓wt, wz, reduceAdd, reduceMul, reduceEqDiff, reduceLeDiff, Nat.reduceLT, reduceLE, reduceLT, reduceEq, reduceNe, hb]) | ((with_reducible refine And.intro ?_ ?_); omega) | fail)
   · have hkl : k < l.length := by omega
     have e3 := wi_succ (k := k) (by omega)
     have m2 := may_call (rowAt l k).i (rowAt l k).u (rowAt l k).o c.n k (hl.2 k)
     simp only [↓wt, wz, reduceAdd, reduceMul, reduceEqDiff, reduceLeDiff, Nat.reduceLT, reduceLE, reduceLT, reduceEq, reduceNe, elem_R, RowV_eq, e3]
     repeat (refine And.intro (by omega) ?_)
     refine icall_keep [] m2 ⟨arg_row, arg_c, arg_c, trivial⟩ (.c _) ?_
     simp only [↓wt, wz, reduceAdd, reduceMul, reduceEqDiff, reduceLeDiff, Nat.reduceLT, reduceLE, reduceLT, reduceEq, reduceNe]
     repeat' (first | ((first | refine r_casesD (fun hp hb => ?_) (fun hp hb => ?_) | refine r_casesN (fun hp hb => ?_) (fun hp hb => ?_) | refine r_casesM (fun hp hb => ?_) (fun hp hb => ?_) | refine r_casesB (fun hp hb => ?_) (fun hp hb => ?_) | refine r_gcasesD (fun hp hb => ?_) (fun hp hb => ?_) | refine r_gcasesN (fun hp hb => ?_) (fun hp hb => ?_) | refine r_gcasesM (fun hp hb => ?_) (fun hp hb => ?_) | refine r_gcasesB (fun hp hb => ?_) (fun hp hb => ?_)) <;> simp only [↓wt, wz, reduceAdd, reduceMul, reduceEqDiff, reduceLeDiff, Nat.reduceLT, reduceLE, reduceLT, reduceEq, reduceNe, e3, hb]) | ((with_reducible refine And.intro ?_ ?_); omega) | fail)
     · simp only [↓wt, wz, reduceAdd, reduceMul, reduceEqDiff, reduceLeDiff, Nat.reduceLT, reduceLE, reduceLT, reduceEq, reduceNe, Tryz.results42]
       exact exp_bF (p := RightB c l) fun h => by have := (h.2.1.2 k hkl).2; omega
     · rename_i hm _
       refine ⟨k + 1, ⟨by omega, fun j hj => ?_⟩, by omega, ?_⟩
       · rcases Nat.lt_or_ge j k with h | h
         · exact hG j h
         · have : j = k := by omega
           subst this; exact ⟨hm, by omega⟩
       · simp only [↓wt, wz, wkf, reduceAdd, reduceMul, reduceEqDiff, reduceLeDiff, Nat.reduceLT, reduceLE, reduceLT, reduceEq, reduceNe, e3, underL_R, under_e]
     · simp only [↓wt, wz, reduceAdd, reduceMul, reduceEqDiff, reduceLeDiff, Nat.reduceLT, reduceLE, reduceLT, reduceEq, reduceNe, Tryz.results42]
       exact exp_bF (p := RightB c l) fun h => hp (h.2.1.2 k hkl).1
   · have hk2 : k = l.length := by omega
     subst hk2
     have hro : RowsOk c l := ⟨by omega, hG⟩
     refine loop_ruleC tabOk [1, 2, 40] (fun k : Nat => [(41, .c (.int .i64 k))]) (fun k => k ≤ l.length ∧ ∀ j, j < k → 0 ≤ ofC c l j) (fun k => l.length - k) 0 ⟨by omega, fun j h => by omega⟩ ?_ ?_
     · simp only [↓wt, wz, wkf, reduceAdd, reduceMul, reduceEqDiff, reduceLeDiff, Nat.reduceLT, reduceLE, reduceLT, reduceEq, reduceNe, underL_R, under_e]
     · rintro k ⟨hk, hH⟩
       simp only [↓wt, wz, reduceAdd, reduceMul, reduceEqDiff, reduceLeDiff, Nat.reduceLT, reduceLE, reduceLT, reduceEq, reduceNe]
       repeat' (first | ((first | refine r_casesD (fun hp hb => ?_) (fun hp hb => ?_) | refine r_casesN (fun hp hb => ?_) (fun hp hb => ?_) | refine r_casesM (fun hp hb => ?_) (fun hp hb => ?_) | refine r_casesB (fun hp hb => ?_) (fun hp hb => ?_) | refine r_gcasesD (fun hp hb => ?_) (fun hp hb => ?_) | refine r_gcasesN (fun hp hb => ?_) (fun hp hb => ?_) | refine r_gcasesM (fun hp hb => ?_) (fun hp hb => ?_) | refine r_gcasesB (fun hp hb => ?_) (fun hp hb => ?_)) <;> simp only [↓wt, wz, reduceAdd, reduceMul, reduceEqDiff, reduceLeDiff, Nat.reduceLT, reduceLE, reduceLT, reduceEq, reduceNe, hb]) | ((with_reducible refine And.intro ?_ ?_); omega) | fail)
       · have hkl : k < l.length := by omega
         have e3 := wi_succ (k := k) (by omega)
         have m3 := of_call c l k hc hro hkl
         refine icall_drop [] m3 ⟨arg_conf', arg_books, arg_c, trivial⟩ (.c _) ?_
         simp only [↓wt, wz, reduceAdd, reduceMul, reduceEqDiff, reduceLeDiff, Nat.reduceLT, reduceLE, reduceLT, reduceEq, reduceNe]
         repeat' (first | ((first | refine r_casesD (fun hp hb => ?_) (fun hp hb => ?_) | refine r_casesN (fun hp hb => ?_) (fun hp hb => ?_) | refine r_casesM (fun hp hb => ?_) (fun hp hb => ?_) | refine r_casesB (fun hp hb => ?_) (fun hp hb => ?_) | refine r_gcasesD (fun hp hb => ?_) (fun hp hb => ?_) | refine r_gcasesN (fun hp hb => ?_) (fun hp hb => ?_) | refine r_gcasesM (fun hp hb => ?_) (fun hp hb => ?_) | refine r_gcasesB (fun hp hb => ?_) (fun hp hb => ?_)) <;> simp only [↓wt, wz, reduceAdd, reduceMul, reduceEqDiff, reduceLeDiff, Nat.reduceLT, reduceLE, reduceLT, reduceEq, reduceNe, e3, hb]) | ((with_reducible refine And.intro ?_ ?_); omega) | fail)
         · simp only [↓wt, wz, reduceAdd, reduceMul, reduceEqDiff, reduceLeDiff, Nat.reduceLT, reduceLE, reduceLT, reduceEq, reduceNe, Tryz.results42]
           exact exp_bF (p := RightB c l) fun h => by have := h.2.2 k hkl; omega
         · refine ⟨k + 1, ⟨by omega, fun j hj => ?_⟩, by omega, ?_⟩
           · rcases Nat.lt_or_ge j k with h | h
             · exact hH j h
             · have : j = k := by omega
               subst this; omega
           · simp only [↓wt, wz, wkf, reduceAdd, reduceMul, reduceEqDiff, reduceLeDiff, Nat.reduceLT, reduceLE, reduceLT, reduceEq, reduceNe, e3, underL_R, under_e]
       · simp only [↓wt, wz, reduceAdd, reduceMul, reduceEqDiff, reduceLeDiff, Nat.reduceLT, reduceLE, reduceLT, reduceEq, reduceNe, Tryz.results42]
         exact exp_bT (p := RightB c l) ⟨hc, hro, fun j hj => hH j (by omega)⟩
set_option maxHeartbeats 2000000 in
theorem rright_call (c : Conf) (l : List RowD) (hl : Lens l) : PCall Tryz.prog 51 [ConfA c, BooksV l] (.c (.bool (decide (RightB c l)))) := by
 have m1 := rrtmay_call c
 have hl1 := hl.1
 refine pcall_body tabOk Tryz.func51 rfl rfl (by rw [Tryz.ntmps51]; simp) ?_
 simp only [Tryz.ntmps51, ConfA, BooksV]
 simp only [↓wt, wz, reduceAdd, reduceMul, reduceEqDiff, reduceLeDiff, Nat.reduceLT, reduceLE, reduceLT, reduceEq, reduceNe]
 refine icall_drop [] m1 ⟨arg_conf', trivial⟩ (.c _) ?_
 simp only [↓wt, wz, reduceAdd, reduceMul, reduceEqDiff, reduceLeDiff, Nat.reduceLT, reduceLE, reduceLT, reduceEq, reduceNe]
 refine r_gcasesN (fun hc hb => ?_) (fun hc hb => ?_) <;> simp only [↓wt, wz, reduceAdd, reduceMul, reduceEqDiff, reduceLeDiff, Nat.reduceLT, reduceLE, reduceLT, reduceEq, reduceNe, hb]
 rotate_left
 · simp only [↓wt, wz, reduceAdd, reduceMul, reduceEqDiff, reduceLeDiff, Nat.reduceLT, reduceLE, reduceLT, reduceEq, reduceNe, Tryz.results51]
   exact exp_bF (p := RightB c l) fun h => hc h.1
 repeat' (first | ((first | refine r_casesD (fun hp hb => ?_) (fun hp hb => ?_) | refine r_casesN (fun hp hb => ?_) (fun hp hb => ?_) | refine r_casesM (fun hp hb => ?_) (fun hp hb => ?_) | refine r_casesB (fun hp hb => ?_) (fun hp hb => ?_) | refine r_gcasesD (fun hp hb => ?_) (fun hp hb => ?_) | refine r_gcasesN (fun hp hb => ?_) (fun hp hb => ?_) | refine r_gcasesM (fun hp hb => ?_) (fun hp hb => ?_) | refine r_gcasesB (fun hp hb => ?_) (fun hp hb => ?_)) <;> simp only [↓wt, wz, reduceAdd, reduceMul, reduceEqDiff, reduceLeDiff, Nat.reduceLT, reduceLE, reduceLT, reduceEq, reduceNe, Tryz.results51, hb]) | ((with_reducible refine And.intro ?_ ?_); omega) | fail)
 rotate_left
 · exact exp_bF (p := RightB c l) fun h => hp h.2.1.1
 have hn := hc.1
 refine freeze_rule 0 [1, 2, 5] (by simp only [↓wt, wz, reduceAdd, reduceMul, reduceEqDiff, reduceLeDiff, Nat.reduceLT, reduceLE, reduceLT, reduceEq, reduceNe, underL_R]; (try (repeat' (first | (exact fun _ => by simp only [pureL_eq, underL_cons, underL_nil, AV.cells, under_l, under_c, under_g, under_e, under_f, underL_B, underL_I, underL_Bs, under_Bs, List.mem_cons, List.not_mem_nil, or_false, forall_eq_or_imp, forall_eq, and_self, and_true, true_and, underL_R]) | ((with_reducible refine And.intro ?_ ?_)) | (intro _) | omega | (simp only [pureL_eq, underL_cons, underL_nil, AV.cells, under_l, under_c, under_g, under_e, under_f, underL_B, underL_I, underL_Bs, under_Bs, List.mem_cons, List.not_mem_nil, or_false, forall_eq_or_imp, forall_eq, and_self, and_true, true_and, underL_R])))); done) (by simp only [↓wt, wz, reduceAdd, reduceMul, reduceEqDiff, reduceLeDiff, Nat.reduceLT, reduceLE, reduceLT, reduceEq, reduceNe, underL_R]; (try (repeat' (first | (exact fun _ => by simp only [pureL_eq, underL_cons, underL_nil, AV.cells, under_l, under_c, under_g, under_e, under_f, underL_B, underL_I, underL_Bs, under_Bs, List.mem_cons, List.not_mem_nil, or_false, forall_eq_or_imp, forall_eq, and_self, and_true, true_and, underL_R]) | ((with_reducible refine And.intro ?_ ?_)) | (intro _) | omega | (simp only [pureL_eq, underL_cons, underL_nil, AV.cells, under_l, under_c, under_g, under_e, under_f, underL_B, underL_I, underL_Bs, under_Bs, List.mem_cons, List.not_mem_nil, or_false, forall_eq_or_imp, forall_eq, and_self, and_true, true_and, underL_R])))); done) ?_; simp only [↓wt, wz, reduceAdd, reduceMul, reduceEqDiff, reduceLeDiff, Nat.reduceLT, reduceLE, reduceLT, reduceEq, reduceNe, underL_R]
 refine loop_ruleC tabOk [1, 2] (fun k : Nat => [(5, .c (.int .i64 k))]) (fun k => k ≤ l.length ∧ ∀ j, j < k → MayR (rowAt l j).i (rowAt l j).u (rowAt l j).o c.n j ∧ (rowAt l j).i ≤ c.c) (fun k => l.length - k) 0 ⟨by omega, fun j h => by omega⟩ ?_ ?_
 · simp only [↓wt, wz, wkf, reduceAdd, reduceMul, reduceEqDiff, reduceLeDiff, Nat.reduceLT, reduceLE, reduceLT, reduceEq, reduceNe, underL_R, under_e]
 · rintro k ⟨hk, hG⟩
   simp only [↓wt, wz, reduceAdd, reduceMul, reduceEqDiff, reduceLeDiff, Nat.reduceLT, reduceLE, reduceLT, reduceEq, reduceNe]
   repeat' (first | ((first | refine r_casesD (fun hp hb => ?_) (fun hp hb => ?_) | refine r_casesN (fun hp hb => ?_) (fun hp hb => ?_) | refine r_casesM (fun hp hb => ?_) (fun hp hb => ?_) | refine r_casesB (fun hp hb => ?_) (fun hp hb => ?_) | refine r_gcasesD (fun hp hb => ?_) (fun hp hb => ?_) | refine r_gcasesN (fun hp hb => ?_) (fun hp hb => ?_) | refine r_gcasesM (fun hp hb => ?_) (fun hp hb => ?_) | refine r_gcasesB (fun hp hb => ?_) (fun hp hb => ?_)) <;> simp only [↓wt, wz, reduceAdd, reduceMul, reduceEqDiff, reduceLeDiff, Nat.reduceLT, reduceLE, reduceLT, reduceEq, reduceNe, hb]) | ((with_reducible refine And.intro ?_ ?_); omega) | fail)
   · have hkl : k < l.length := by omega
     have e3 := wi_succ (k := k) (by omega)
     have m2 := rmay_call (rowAt l k).i (rowAt l k).u (rowAt l k).o c.n k (hl.2 k)
     refine draw_rule tabOk mixed [0, 0, 0, 0, 0, 0, 0, 1, 0, 0, 0, 0, 0, 0, 0, 0, 0, 0, 0] [[], [], [0, 1], [0, 1, 2], [], [4], [], [0, 1, 2, 3, 4, 5, 6], [0, 1, 2, 3, 4, 5, 6, 7], [0, 1, 2, 3, 4, 5, 6, 7, 8], [0, 1, 2, 3, 4, 5, 6, 7, 8, 9], [0, 1, 2, 3, 4, 5, 6, 7, 8, 9], [0, 1, 2, 3, 4, 5, 6, 7, 8, 9, 10, 11], [0, 1, 2, 3, 4, 5, 6, 7, 8, 9, 10, 11, 12], [0, 1, 2, 3, 4, 5, 6, 7, 8, 9, 10, 11, 12, 13], [0, 1, 2, 3, 4, 5, 6, 7, 8, 9], [0, 1, 2, 3, 4, 5, 6, 7, 8, 9, 15], [0, 1, 2, 3, 4, 5, 6, 7, 8, 9, 10, 11, 12, 13, 14, 15, 16], [0, 1, 2, 3, 4, 5, 6, 7, 8, 9, 10, 11, 12, 13, 14, 15, 16, 17]] (by kernel_rfl) ?_
     simp only [↓wt, wz, reduceAdd, reduceMul, reduceEqDiff, reduceLeDiff, Nat.reduceLT, reduceLE, reduceLT, reduceEq, reduceNe, elem_R, RowV_eq, e3]
     repeat (refine And.intro (by omega) ?_)
     refine d_heavyC (icall_drop [] m2 ⟨arg_row, arg_c, arg_c, trivial⟩ (.c _) ⟨rfl, rfl⟩) ?_
     simp only [↓wt, wz, reduceAdd, reduceMul, reduceEqDiff, reduceLeDiff, Nat.reduceLT, reduceLE, reduceLT, reduceEq, reduceNe]
     refine r_gcasesN (fun hm hb => ?_) (fun hm hb => ?_) <;> simp only [↓wt, wz, reduceAdd, reduceMul, reduceEqDiff, reduceLeDiff, Nat.reduceLT, reduceLE, reduceLT, reduceEq, reduceNe, hb, elem_R, RowV_eq]
     · repeat (refine And.intro (by omega) ?_)
       repeat' (first | ((first | refine r_casesD (fun hp hb => ?_) (fun hp hb => ?_) | refine r_casesN (fun hp hb => ?_) (fun hp hb => ?_) | refine r_casesM (fun hp hb => ?_) (fun hp hb => ?_) | refine r_casesB (fun hp hb => ?_) (fun hp hb => ?_) | refine r_gcasesD (fun hp hb => ?_) (fun hp hb => ?_) | refine r_gcasesN (fun hp hb => ?_) (fun hp hb => ?_) | refine r_gcasesM (fun hp hb => ?_) (fun hp hb => ?_) | refine r_gcasesB (fun hp hb => ?_) (fun hp hb => ?_)) <;> simp only [↓wt, wz, reduceAdd, reduceMul, reduceEqDiff, reduceLeDiff, Nat.reduceLT, reduceLE, reduceLT, reduceEq, reduceNe, e3, hb]) | ((with_reducible refine And.intro ?_ ?_); omega) | fail)
       · simp only [↓wt, wz, reduceAdd, reduceMul, reduceEqDiff, reduceLeDiff, Nat.reduceLT, reduceLE, reduceLT, reduceEq, reduceNe, Tryz.results51]
         exact exp_bF (p := RightB c l) fun h => by have := (h.2.1.2 k hkl).2; omega
       · refine ⟨k + 1, ⟨by omega, fun j hj => ?_⟩, by omega, ?_⟩
         · rcases Nat.lt_or_ge j k with h | h
           · exact hG j h
           · have : j = k := by omega
             subst this; exact ⟨hm, by omega⟩
         · simp only [↓wt, wz, wkf, reduceAdd, reduceMul, reduceEqDiff, reduceLeDiff, Nat.reduceLT, reduceLE, reduceLT, reduceEq, reduceNe, e3, underL_R, under_e]
     · simp only [↓wt, wz, reduceAdd, reduceMul, reduceEqDiff, reduceLeDiff, Nat.reduceLT, reduceLE, reduceLT, reduceEq, reduceNe, Tryz.results51]
       exact exp_bF (p := RightB c l) fun h => hm (h.2.1.2 k hkl).1
   · have hk2 : k = l.length := by omega
     subst hk2
     have hro : RowsOk c l := ⟨by omega, hG⟩
     refine loop_ruleC tabOk [1, 2] (fun k : Nat => [(6, .c (.int .i64 k))]) (fun k => k ≤ l.length ∧ ∀ j, j < k → 0 ≤ ofC c l j) (fun k => l.length - k) 0 ⟨by omega, fun j h => by omega⟩ ?_ ?_
     · simp only [↓wt, wz, wkf, reduceAdd, reduceMul, reduceEqDiff, reduceLeDiff, Nat.reduceLT, reduceLE, reduceLT, reduceEq, reduceNe, underL_R, under_e]
     · rintro k ⟨hk, hH⟩
       simp only [↓wt, wz, reduceAdd, reduceMul, reduceEqDiff, reduceLeDiff, Nat.reduceLT, reduceLE, reduceLT, reduceEq, reduceNe]
       repeat' (first | ((first | refine r_casesD (fun hp hb => ?_) (fun hp hb => ?_) | refine r_casesN (fun hp hb => ?_) (fun hp hb => ?_) | refine r_casesM (fun hp hb => ?_) (fun hp hb => ?_) | refine r_casesB (fun hp hb => ?_) (fun hp hb => ?_) | refine r_gcasesD (fun hp hb => ?_) (fun hp hb => ?_) | refine r_gcasesN (fun hp hb => ?_) (fun hp hb => ?_) | refine r_gcasesM (fun hp hb => ?_) (fun hp hb => ?_) | refine r_gcasesB (fun hp hb => ?_) (fun hp hb => ?_)) <;> simp only [↓wt, wz, reduceAdd, reduceMul, reduceEqDiff, reduceLeDiff, Nat.reduceLT, reduceLE, reduceLT, reduceEq, reduceNe, hb]) | ((with_reducible refine And.intro ?_ ?_); omega) | fail)
       · have hkl : k < l.length := by omega
         have e3 := wi_succ (k := k) (by omega)
         have m3 := rof_call c l k hc hro hkl
         refine icall_drop [] m3 ⟨arg_conf', arg_books, arg_c, trivial⟩ (.c _) ?_
         simp only [↓wt, wz, reduceAdd, reduceMul, reduceEqDiff, reduceLeDiff, Nat.reduceLT, reduceLE, reduceLT, reduceEq, reduceNe]
         repeat' (first | ((first | refine r_casesD (fun hp hb => ?_) (fun hp hb => ?_) | refine r_casesN (fun hp hb => ?_) (fun hp hb => ?_) | refine r_casesM (fun hp hb => ?_) (fun hp hb => ?_) | refine r_casesB (fun hp hb => ?_) (fun hp hb => ?_) | refine r_gcasesD (fun hp hb => ?_) (fun hp hb => ?_) | refine r_gcasesN (fun hp hb => ?_) (fun hp hb => ?_) | refine r_gcasesM (fun hp hb => ?_) (fun hp hb => ?_) | refine r_gcasesB (fun hp hb => ?_) (fun hp hb => ?_)) <;> simp only [↓wt, wz, reduceAdd, reduceMul, reduceEqDiff, reduceLeDiff, Nat.reduceLT, reduceLE, reduceLT, reduceEq, reduceNe, e3, hb]) | ((with_reducible refine And.intro ?_ ?_); omega) | fail)
         · simp only [↓wt, wz, reduceAdd, reduceMul, reduceEqDiff, reduceLeDiff, Nat.reduceLT, reduceLE, reduceLT, reduceEq, reduceNe, Tryz.results51]
           exact exp_bF (p := RightB c l) fun h => by have := h.2.2 k hkl; omega
         · refine ⟨k + 1, ⟨by omega, fun j hj => ?_⟩, by omega, ?_⟩
           · rcases Nat.lt_or_ge j k with h | h
             · exact hH j h
             · have : j = k := by omega
               subst this; omega
           · simp only [↓wt, wz, wkf, reduceAdd, reduceMul, reduceEqDiff, reduceLeDiff, Nat.reduceLT, reduceLE, reduceLT, reduceEq, reduceNe, e3, underL_R, under_e]
       · simp only [↓wt, wz, reduceAdd, reduceMul, reduceEqDiff, reduceLeDiff, Nat.reduceLT, reduceLE, reduceLT, reduceEq, reduceNe, Tryz.results51]
         exact exp_bT (p := RightB c l) ⟨hc, hro, fun j hj => hH j (by omega)⟩
end Go.Ab
namespace Go.Ab
open Go Go.Proofs Go.RowKit
end Go.Ab
namespace Go.Ab
open Go Go.Proofs Go.RowKit
end Go.Ab
namespace Go.Ab
open Go Go.Proofs Go.RowKit
theorem arg_fe {M : Mem} {ids : List Nat} {fn : FuncId} {cs : List AV} (h : ∀ a ∈ cs, Under 0 a) : VOkA M (.f fn cs) ∧ (∀ k ∈ idsA (.f fn cs), k ∈ ids) ∧ Weak (viewA M (.f fn cs)) (.f fn cs) ∧ Under 0 (.f fn cs) :=
 ⟨trivial, (fun i h => by simp [idsA, idsC] at h), by unfold Weak; exact .refl _, .f _ _ fun i hi => h _ (List.getElem_mem hi)⟩
end Go.Ab
