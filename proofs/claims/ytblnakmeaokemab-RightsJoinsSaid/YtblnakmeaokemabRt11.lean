/- Rights: books joined. -/
import Derived.Test.YtblnakmeaokemabRt10
set_option linter.unusedSimpArgs false
set_option linter.unusedVariables false
set_option linter.constructorNameAsVariable false
set_option maxRecDepth 100000
namespace Go.Ab
open Go Go.Proofs Go.RowKit

def joinD (a b : RowD) : RowD := ⟨max a.i b.i, max a.u b.u, List.zipWith max a.o b.o⟩
def joinB (a b : List RowD) : List RowD := List.zipWith joinD a b
theorem joinB_len {a b : List RowD} (h : a.length = b.length) : (joinB a b).length = a.length := by simp [joinB, h]
theorem joinB_at {a b : List RowD} {k : Nat} (h : k < a.length) (h' : k < b.length) : rowAt (joinB a b) k = joinD (rowAt a k) (rowAt b k) := by
  simp only [rowAt, joinB, List.getD_eq_getElem?_getD]
  rw [List.getElem?_eq_getElem h, List.getElem?_eq_getElem h', List.getElem?_eq_getElem (by simp; omega)]
  simp
def joinR (c : Conf) (a b : List RowD) : List RowD × Int := if ¬ (RightB c a ∧ RightB c b) then ([], 1) else if ¬ RightB c (joinB a b) then ([], 7) else (joinB a b, 0)
/-- Rows of the call's own: the first k of l are there. -/
def fiX (l : List RowD) (k : Nat) : List AV := (l.take k).map RowV ++ List.replicate (l.length - k) (.g [.c (.int .i64 0), .c (.int .i64 0), .c (.slice none 0 0)])
theorem fiX_len {l : List RowD} {k : Nat} (h : k ≤ l.length) : (fiX l k).length = l.length := by simp [fiX]; omega
theorem fiX_elem {l : List RowD} {k : Nat} (h : k < l.length) {K : AV → Prop} : Elem (fiX l k) k K = K (.g [.c (.int .i64 0), .c (.int .i64 0), .c (.slice none 0 0)]) := by
  have hk : k < (fiX l k).length := by rw [fiX_len (by omega)]; exact h
  have : (fiX l k)[k] = .g [.c (.int .i64 0), .c (.int .i64 0), .c (.slice none 0 0)] := by
    simp only [fiX]
    rw [List.getElem_append_right (by simp; omega)]
    simp
  simp only [Elem, hk, exists_true_left, this]
theorem fiX_set {l : List RowD} {k : Nat} (h : k < l.length) : (fiX l k).set k (RowV (rowAt l k)) = fiX l (k + 1) := by
  simp only [fiX]
  have hl : ((l.take k).map RowV).length = k := by simp; omega
  rw [List.set_append_right _ _ (by omega), hl, Nat.sub_self, show l.length - k = (l.length - (k + 1)) + 1 by omega, List.replicate_succ, List.set_cons_zero, ← takeR_snoc h, List.append_assoc]
  rfl
theorem fiX_0 {l : List RowD} : fiX l 0 = List.replicate l.length (.g [.c (.int .i64 0), .c (.int .i64 0), .c (.slice none 0 0)]) := by simp [fiX]
theorem fiX_n {l : List RowD} : fiX l l.length = l.map RowV := by simp [fiX]
theorem mem_fiX {l : List RowD} {k : Nat} {x : AV} (h : x ∈ fiX l k) : (∃ r, x = RowV r) ∨ x = .g [.c (.int .i64 0), .c (.int .i64 0), .c (.slice none 0 0)] := by
  rcases List.mem_append.1 h with h | h
  · obtain ⟨r, _, rfl⟩ := List.mem_map.1 h
    exact .inl ⟨r, rfl⟩
  · exact .inr (List.eq_of_mem_replicate h)
theorem underL_fi {l : List RowD} {k m : Nat} : UnderL m (fiX l k) = True := eq_true (underL_mem fun a ha x hx => by
  rcases mem_fiX ha with ⟨r, rfl⟩ | rfl
  · exact under_RowV r x hx
  · simp only [AV.cells, List.mem_cons, List.not_mem_nil, or_false] at hx
    rcases hx with rfl | rfl | rfl <;> exact .c _)
theorem join_at {c : Conf} {a b : List RowD} (ha : RightB c a) (hb : RightB c b) {k : Nat} (hk : k < a.length) : (rowAt a k).o.length = (rowAt b k).o.length ∧ (rowAt a k).o.length < 1000000000 := by
  have h1 := ha.2.1.row ha.1 hk
  have h2 := ha.2.1.1
  have h3 := hb.2.1.1
  have h4 := hb.2.1.row hb.1 (w := k) (by omega)
  omega
theorem rowJ_call (a b : RowD) (h : a.o.length = b.o.length) (hl : a.o.length < 1000000000) : PCall Try.prog 45 [RowA a.i a.u a.o, RowA b.i b.u b.o] (.t [RowV (joinD a b), .c (.bool true)]) := by
  have := join_call a.i a.u b.i b.u a.o b.o hl
  rwa [if_pos h] at this
theorem rrowJ_call (a b : RowD) (h : a.o.length = b.o.length) (hl : a.o.length < 1000000000) : PCall Try.prog 46 [RowA a.i a.u a.o, RowA b.i b.u b.o] (.t [RowV (joinD a b), .c (.bool true)]) := by
  have := rjoin_call a.i a.u b.i b.u a.o b.o hl
  rwa [if_pos h] at this
theorem okR_rowT {r : RowD} {v : Value} : OkR (Under 0) (.t [RowV r, .c v]) := ⟨⟨.c _, .c _, .l _ _ (pureI _), trivial⟩, .c _, trivial⟩
theorem joinB_lens {a b : List RowD} (ha : Lens a) : Lens (joinB a b) := by
  refine ⟨by simp [joinB]; have := ha.1; omega, fun k => ?_⟩
  by_cases h : k < (joinB a b).length
  · have h2 : k < a.length ∧ k < b.length := by simp [joinB] at h; omega
    rw [joinB_at h2.1 h2.2]
    have := ha.2 k
    simp [joinD]; omega
  · rw [rowAt_ge (by omega)]; simp
set_option maxHeartbeats 2000000 in
theorem rtjoin_call (c : Conf) (a b : List RowD) (la : Lens a) (lb : Lens b) : PCall Try.prog 31 [ConfA c, BooksV a, BooksV b] (BooksC (joinR c a b)) := by
  have m1 := right_call c a la
  have m2 := right_call c b lb
  have m3 := right_call c (joinB a b) (joinB_lens la)
  refine pcall_body tabOk Try.func31 rfl rfl (by rw [Try.ntmps31]; simp) ?_
  simp only [Try.ntmps31, ConfA, BooksV]
  simp only [↓wt, wu, wk0, wk1, wk2, wk3, Nat.reduceAdd, Nat.reduceEqDiff, Nat.reduceLeDiff, Nat.reduceLT, Nat.reduceMul, Int.reduceLE, Int.reduceLT, Int.reduceEq, Int.reduceNe, wk4, laidS, keepS]
  refine icall_drop [] m1 ⟨arg_conf', arg_books, trivial⟩ (.c _) ?_
  simp only [↓wt, wu, wk0, wk1, wk2, wk3, Nat.reduceAdd, Nat.reduceEqDiff, Nat.reduceLeDiff, Nat.reduceLT, Nat.reduceMul, Int.reduceLE, Int.reduceLT, Int.reduceEq, Int.reduceNe, wk4, laidS, keepS]
  refine r_gcasesN (fun h1 hb => ?_) (fun h1 hb => ?_) <;> simp only [↓wt, wu, wk0, wk1, wk2, wk3, Nat.reduceAdd, Nat.reduceEqDiff, Nat.reduceLeDiff, Nat.reduceLT, Nat.reduceMul, Int.reduceLE, Int.reduceLT, Int.reduceEq, Int.reduceNe, wk4, laidS, keepS, hb]
  rotate_left
  · simp only [↓wt, wu, wk0, wk1, wk2, wk3, Nat.reduceAdd, Nat.reduceEqDiff, Nat.reduceLeDiff, Nat.reduceLT, Nat.reduceMul, Int.reduceLE, Int.reduceLT, Int.reduceEq, Int.reduceNe, wk4, laidS, keepS, Try.results31]
    exact expR_nil (by rw [joinR, if_pos fun h => h1 h.1])
  refine icall_drop [] m2 ⟨arg_conf', arg_books, trivial⟩ (.c _) ?_
  simp only [↓wt, wu, wk0, wk1, wk2, wk3, Nat.reduceAdd, Nat.reduceEqDiff, Nat.reduceLeDiff, Nat.reduceLT, Nat.reduceMul, Int.reduceLE, Int.reduceLT, Int.reduceEq, Int.reduceNe, wk4, laidS, keepS]
  refine r_casesN (fun h2 hb => ?_) (fun h2 hb => ?_) <;> simp only [↓wt, wu, wk0, wk1, wk2, wk3, Nat.reduceAdd, Nat.reduceEqDiff, Nat.reduceLeDiff, Nat.reduceLT, Nat.reduceMul, Int.reduceLE, Int.reduceLT, Int.reduceEq, Int.reduceNe, wk4, laidS, keepS, hb]
  rotate_left
  · simp only [↓wt, wu, wk0, wk1, wk2, wk3, Nat.reduceAdd, Nat.reduceEqDiff, Nat.reduceLeDiff, Nat.reduceLT, Nat.reduceMul, Int.reduceLE, Int.reduceLT, Int.reduceEq, Int.reduceNe, wk4, laidS, keepS, Try.results31]
    exact expR_nil (by rw [joinR, if_pos fun h => h2 h.2])
  have hn := h1.1.1
  have hla := h1.2.1.1
  have hlb := h2.2.1.1
  have hab : a.length = b.length := by omega
  have hjl := joinB_len hab
  have hg : ¬ ¬ (RightB c a ∧ RightB c b) := fun h => h ⟨h1, h2⟩
  refine make_same (.inl rfl) (by omega) (by dsimp only; omega) (by omega) ?_
  simp only [Int.toNat_natCast]
  simp only [↓wt, wu, wk0, wk1, wk2, wk3, Nat.reduceAdd, Nat.reduceEqDiff, Nat.reduceLeDiff, Nat.reduceLT, Nat.reduceMul, Int.reduceLE, Int.reduceLT, Int.reduceEq, Int.reduceNe, wk4, laidS, keepS, List.length_replicate]
  refine loop_ruleM tabOk [1, 2, 3, 8, 24] (fun k : Nat => [(25, .c (.int .i64 k))]) (fun k => ⟨[(0, ⟨23, 6, [ConfA c]⟩), (1, ⟨49, 3, fiX (joinB a b) k⟩)], 2⟩) (fun k => k ≤ a.length) (fun k => a.length - k) 0 (by omega) (fun k => rfl) ?_ ?_
  · have h0 := fiX_0 (l := joinB a b)
    rw [hjl] at h0
    simp only [↓wt, wu, wk0, wk1, wk2, wk3, wkf, Nat.reduceAdd, Nat.reduceEqDiff, Nat.reduceLeDiff, Nat.reduceLT, Nat.reduceMul, Int.reduceLE, Int.reduceLT, Int.reduceEq, Int.reduceNe, wk4, laidS, keepS, ConfA, h0, underL_R]
    rw [← h0, underL_fi]; trivial
  · intro k hk
    have hl := fiX_len (l := joinB a b) (k := k) (by omega)
    simp only [ConfA]
    simp only [↓wt, wu, wk0, wk1, wk2, wk3, Nat.reduceAdd, Nat.reduceEqDiff, Nat.reduceLeDiff, Nat.reduceLT, Nat.reduceMul, Int.reduceLE, Int.reduceLT, Int.reduceEq, Int.reduceNe, wk4, laidS, keepS]
    repeat' (first | (refine r_casesD (fun hp hb => ?_) (fun hp hb => ?_) <;> simp only [↓wt, wu, wk0, wk1, wk2, wk3, Nat.reduceAdd, Nat.reduceEqDiff, Nat.reduceLeDiff, Nat.reduceLT, Nat.reduceMul, Int.reduceLE, Int.reduceLT, Int.reduceEq, Int.reduceNe, wk4, laidS, keepS, hb]) | (refine r_casesN (fun hp hb => ?_) (fun hp hb => ?_) <;> simp only [↓wt, wu, wk0, wk1, wk2, wk3, Nat.reduceAdd, Nat.reduceEqDiff, Nat.reduceLeDiff, Nat.reduceLT, Nat.reduceMul, Int.reduceLE, Int.reduceLT, Int.reduceEq, Int.reduceNe, wk4, laidS, keepS, hb]) | (refine r_casesM (fun hp hb => ?_) (fun hp hb => ?_) <;> simp only [↓wt, wu, wk0, wk1, wk2, wk3, Nat.reduceAdd, Nat.reduceEqDiff, Nat.reduceLeDiff, Nat.reduceLT, Nat.reduceMul, Int.reduceLE, Int.reduceLT, Int.reduceEq, Int.reduceNe, wk4, laidS, keepS, hb]) | (refine r_casesB (fun hp hb => ?_) (fun hp hb => ?_) <;> simp only [↓wt, wu, wk0, wk1, wk2, wk3, Nat.reduceAdd, Nat.reduceEqDiff, Nat.reduceLeDiff, Nat.reduceLT, Nat.reduceMul, Int.reduceLE, Int.reduceLT, Int.reduceEq, Int.reduceNe, wk4, laidS, keepS, hb]) | (refine r_gcasesD (fun hp hb => ?_) (fun hp hb => ?_) <;> simp only [↓wt, wu, wk0, wk1, wk2, wk3, Nat.reduceAdd, Nat.reduceEqDiff, Nat.reduceLeDiff, Nat.reduceLT, Nat.reduceMul, Int.reduceLE, Int.reduceLT, Int.reduceEq, Int.reduceNe, wk4, laidS, keepS, hb]) | (refine r_gcasesN (fun hp hb => ?_) (fun hp hb => ?_) <;> simp only [↓wt, wu, wk0, wk1, wk2, wk3, Nat.reduceAdd, Nat.reduceEqDiff, Nat.reduceLeDiff, Nat.reduceLT, Nat.reduceMul, Int.reduceLE, Int.reduceLT, Int.reduceEq, Int.reduceNe, wk4, laidS, keepS, hb]) | (refine r_gcasesM (fun hp hb => ?_) (fun hp hb => ?_) <;> simp only [↓wt, wu, wk0, wk1, wk2, wk3, Nat.reduceAdd, Nat.reduceEqDiff, Nat.reduceLeDiff, Nat.reduceLT, Nat.reduceMul, Int.reduceLE, Int.reduceLT, Int.reduceEq, Int.reduceNe, wk4, laidS, keepS, hb]) | (refine r_gcasesB (fun hp hb => ?_) (fun hp hb => ?_) <;> simp only [↓wt, wu, wk0, wk1, wk2, wk3, Nat.reduceAdd, Nat.reduceEqDiff, Nat.reduceLeDiff, Nat.reduceLT, Nat.reduceMul, Int.reduceLE, Int.reduceLT, Int.reduceEq, Int.reduceNe, wk4, laidS, keepS, hb]) | ((with_reducible refine And.intro ?_ ?_); omega) | fail)
    · have hkl : k < a.length := by omega
      have e3 := wi_succ (k := k) (by omega)
      have hj := join_at h1 h2 hkl
      have m4 := rowJ_call (rowAt a k) (rowAt b k) hj.1 hj.2
      rw [← joinB_at hkl (by omega)] at m4
      refine draw_rule tabOk mixed [0, 0, 0, 0, 2, 2, 0, 0, 2, 2, 1, 0, 0, 0, 2, 1] [[], [], [], [], [2, 3], [2, 3, 4], [], [], [6, 7], [6, 7, 8], [2, 3, 4, 5, 6, 7, 8, 9], [2, 3, 4, 5, 6, 7, 8, 9, 10], [2, 3, 4, 5, 6, 7, 8, 9, 10, 11], [2, 3, 4, 5, 6, 7, 8, 9, 10, 11], [0, 1, 2, 3, 4, 5, 6, 7, 8, 9, 10, 11, 12], [0, 1, 2, 3, 4, 5, 6, 7, 8, 9, 10, 11, 12, 14]] (by kernel_rfl) ?_
      simp only [↓wt, wu, wk0, wk1, wk2, wk3, Nat.reduceAdd, Nat.reduceEqDiff, Nat.reduceLeDiff, Nat.reduceLT, Nat.reduceMul, Int.reduceLE, Int.reduceLT, Int.reduceEq, Int.reduceNe, wk4, laidS, keepS, elem_R, RowV_eq]
      repeat (refine And.intro (by omega) ?_)
      refine d_heavyC (icall_drop [] m4 ⟨arg_row, arg_row, trivial⟩ okR_rowT ⟨rfl, rfl⟩) ?_
      simp only [↓wt, wu, wk0, wk1, wk2, wk3, Nat.reduceAdd, Nat.reduceEqDiff, Nat.reduceLeDiff, Nat.reduceLT, Nat.reduceMul, Int.reduceLE, Int.reduceLT, Int.reduceEq, Int.reduceNe, wk4, laidS, keepS, RowV_eq]
      repeat (refine And.intro (by omega) ?_)
      refine d_heavyX (by simp only [↓wt, wu, wk0, wk1, wk2, wk3, Nat.reduceAdd, Nat.reduceEqDiff, Nat.reduceLeDiff, Nat.reduceLT, Nat.reduceMul, Int.reduceLE, Int.reduceLT, Int.reduceEq, Int.reduceNe, wk4, laidS, keepS, Cell]; (repeat (refine And.intro (by omega) ?_)); rw [fiX_elem (by omega)]; simp only [↓wt, wu, wk0, wk1, wk2, wk3, Nat.reduceAdd, Nat.reduceEqDiff, Nat.reduceLeDiff, Nat.reduceLT, Nat.reduceMul, Int.reduceLE, Int.reduceLT, Int.reduceEq, Int.reduceNe, wk4, laidS, keepS, Cell]; (repeat (refine And.intro (by omega) ?_)); exact ⟨rfl, rfl⟩) ?_
      have hset := fiX_set (l := joinB a b) (k := k) (by omega)
      rw [RowV_eq] at hset
      simp only [↓wt, wu, wk0, wk1, wk2, wk3, Nat.reduceAdd, Nat.reduceEqDiff, Nat.reduceLeDiff, Nat.reduceLT, Nat.reduceMul, Int.reduceLE, Int.reduceLT, Int.reduceEq, Int.reduceNe, wk4, laidS, keepS, e3, hset]
      refine ⟨k + 1, by omega, by omega, ?_⟩
      simp only [↓wt, wu, wk0, wk1, wk2, wk3, wkf, Nat.reduceAdd, Nat.reduceEqDiff, Nat.reduceLeDiff, Nat.reduceLT, Nat.reduceMul, Int.reduceLE, Int.reduceLT, Int.reduceEq, Int.reduceNe, wk4, laidS, keepS, e3, underL_fi, underL_R]
    · have hkl : k = a.length := by omega
      subst hkl
      have hfn := fiX_n (l := joinB a b)
      rw [hjl] at hfn
      simp only [hfn]
      refine icall_keep [1] m3 ⟨arg_conf', arg_own (by simp) rfl (by simp [hjl]) (pureR _), trivial⟩ (.c _) ?_
      simp only [↓wt, wu, wk0, wk1, wk2, wk3, Nat.reduceAdd, Nat.reduceEqDiff, Nat.reduceLeDiff, Nat.reduceLT, Nat.reduceMul, Int.reduceLE, Int.reduceLT, Int.reduceEq, Int.reduceNe, wk4, laidS, keepS]
      refine r_casesN (fun h3 hb => ?_) (fun h3 hb => ?_) <;> simp only [↓wt, wu, wk0, wk1, wk2, wk3, Nat.reduceAdd, Nat.reduceEqDiff, Nat.reduceLeDiff, Nat.reduceLT, Nat.reduceMul, Int.reduceLE, Int.reduceLT, Int.reduceEq, Int.reduceNe, wk4, laidS, keepS, hb]
      · simp only [↓wt, wu, wk0, wk1, wk2, wk3, Nat.reduceAdd, Nat.reduceEqDiff, Nat.reduceLeDiff, Nat.reduceLT, Nat.reduceMul, Int.reduceLE, Int.reduceLT, Int.reduceEq, Int.reduceNe, wk4, laidS, keepS, Try.results31]
        have hr : joinR c a b = (joinB a b, 0) := by rw [joinR, if_neg hg, if_neg fun h => h h3]
        rw [hr]
        exact exp_tA (xT_cons (xA_frz (off := 0) rfl (by simp [hjl]) rfl (pureR _)) (xT_cons xA_c xT_nil))
      · simp only [↓wt, wu, wk0, wk1, wk2, wk3, Nat.reduceAdd, Nat.reduceEqDiff, Nat.reduceLeDiff, Nat.reduceLT, Nat.reduceMul, Int.reduceLE, Int.reduceLT, Int.reduceEq, Int.reduceNe, wk4, laidS, keepS, Try.results31]
        exact expR_nil (by rw [joinR, if_neg hg, if_pos h3])
def jnM (l : List RowD) : Nat → Mem
  | 0 => ⟨[], 1⟩
  | k + 1 => ⟨[(3, ⟨49, 3, (l.take (k + 1)).map RowV⟩)], 4⟩
theorem jnM_0 {l : List RowD} : jnM l 0 = ⟨[], 1⟩ := rfl
theorem jnM_s {l : List RowD} {k : Nat} : jnM l (k + 1) = ⟨[(3, ⟨49, 3, (l.take (k + 1)).map RowV⟩)], 4⟩ := rfl
set_option maxHeartbeats 2000000 in
theorem rrtjoin_call (c : Conf) (a b : List RowD) (la : Lens a) (lb : Lens b) : PCall Try.prog 32 [ConfA c, BooksV a, BooksV b] (BooksC (joinR c a b)) := by
  have m1 := rright_call c a la
  have m2 := rright_call c b lb
  have m3 := rright_call c (joinB a b) (joinB_lens la)
  refine pcall_body tabOk Try.func32 rfl rfl (by rw [Try.ntmps32]; simp) ?_
  simp only [Try.ntmps32, ConfA, BooksV]
  simp only [↓wt, wu, wk0, wk1, wk2, wk3, Nat.reduceAdd, Nat.reduceEqDiff, Nat.reduceLeDiff, Nat.reduceLT, Nat.reduceMul, Int.reduceLE, Int.reduceLT, Int.reduceEq, Int.reduceNe, wk4, laidS, keepS]
  refine icall_drop [] m1 ⟨arg_conf', arg_books, trivial⟩ (.c _) ?_
  simp only [↓wt, wu, wk0, wk1, wk2, wk3, Nat.reduceAdd, Nat.reduceEqDiff, Nat.reduceLeDiff, Nat.reduceLT, Nat.reduceMul, Int.reduceLE, Int.reduceLT, Int.reduceEq, Int.reduceNe, wk4, laidS, keepS]
  refine r_gcasesN (fun h1 hb => ?_) (fun h1 hb => ?_) <;> simp only [↓wt, wu, wk0, wk1, wk2, wk3, Nat.reduceAdd, Nat.reduceEqDiff, Nat.reduceLeDiff, Nat.reduceLT, Nat.reduceMul, Int.reduceLE, Int.reduceLT, Int.reduceEq, Int.reduceNe, wk4, laidS, keepS, hb]
  rotate_left
  · simp only [↓wt, wu, wk0, wk1, wk2, wk3, Nat.reduceAdd, Nat.reduceEqDiff, Nat.reduceLeDiff, Nat.reduceLT, Nat.reduceMul, Int.reduceLE, Int.reduceLT, Int.reduceEq, Int.reduceNe, wk4, laidS, keepS, Try.results32]
    exact expR_nil (by rw [joinR, if_pos fun h => h1 h.1])
  refine icall_drop [] m2 ⟨arg_conf', arg_books, trivial⟩ (.c _) ?_
  simp only [↓wt, wu, wk0, wk1, wk2, wk3, Nat.reduceAdd, Nat.reduceEqDiff, Nat.reduceLeDiff, Nat.reduceLT, Nat.reduceMul, Int.reduceLE, Int.reduceLT, Int.reduceEq, Int.reduceNe, wk4, laidS, keepS]
  refine r_casesN (fun h2 hb => ?_) (fun h2 hb => ?_) <;> simp only [↓wt, wu, wk0, wk1, wk2, wk3, Nat.reduceAdd, Nat.reduceEqDiff, Nat.reduceLeDiff, Nat.reduceLT, Nat.reduceMul, Int.reduceLE, Int.reduceLT, Int.reduceEq, Int.reduceNe, wk4, laidS, keepS, hb]
  rotate_left
  · simp only [↓wt, wu, wk0, wk1, wk2, wk3, Nat.reduceAdd, Nat.reduceEqDiff, Nat.reduceLeDiff, Nat.reduceLT, Nat.reduceMul, Int.reduceLE, Int.reduceLT, Int.reduceEq, Int.reduceNe, wk4, laidS, keepS, Try.results32]
    exact expR_nil (by rw [joinR, if_pos fun h => h2 h.2])
  have hn := h1.1.1
  have hla := h1.2.1.1
  have hlb := h2.2.1.1
  have hab : a.length = b.length := by omega
  have hjl := joinB_len hab
  have hg : ¬ ¬ (RightB c a ∧ RightB c b) := fun h => h ⟨h1, h2⟩
  refine freeze_rule 0 [1, 2, 3, 8, 9] (by simp only [↓wt, wu, wk0, wk1, wk2, wk3, Nat.reduceAdd, Nat.reduceEqDiff, Nat.reduceLeDiff, Nat.reduceLT, Nat.reduceMul, Int.reduceLE, Int.reduceLT, Int.reduceEq, Int.reduceNe, wk4, laidS, keepS, underL_R]; (try (repeat' (first | (exact fun _ => by simp only [pureL_eq, underL_cons, underL_nil, AV.cells, under_l, under_c, under_g, under_e, under_f, underL_B, underL_I, underL_Bs, under_Bs, List.mem_cons, List.not_mem_nil, or_false, forall_eq_or_imp, forall_eq, and_self, and_true, true_and, underL_R]) | ((with_reducible refine And.intro ?_ ?_)) | (intro _) | omega | (simp only [pureL_eq, underL_cons, underL_nil, AV.cells, under_l, under_c, under_g, under_e, under_f, underL_B, underL_I, underL_Bs, under_Bs, List.mem_cons, List.not_mem_nil, or_false, forall_eq_or_imp, forall_eq, and_self, and_true, true_and, underL_R])))); done) (by simp only [↓wt, wu, wk0, wk1, wk2, wk3, Nat.reduceAdd, Nat.reduceEqDiff, Nat.reduceLeDiff, Nat.reduceLT, Nat.reduceMul, Int.reduceLE, Int.reduceLT, Int.reduceEq, Int.reduceNe, wk4, laidS, keepS, underL_R]; (try (repeat' (first | (exact fun _ => by simp only [pureL_eq, underL_cons, underL_nil, AV.cells, under_l, under_c, under_g, under_e, under_f, underL_B, underL_I, underL_Bs, under_Bs, List.mem_cons, List.not_mem_nil, or_false, forall_eq_or_imp, forall_eq, and_self, and_true, true_and, underL_R]) | ((with_reducible refine And.intro ?_ ?_)) | (intro _) | omega | (simp only [pureL_eq, underL_cons, underL_nil, AV.cells, under_l, under_c, under_g, under_e, under_f, underL_B, underL_I, underL_Bs, under_Bs, List.mem_cons, List.not_mem_nil, or_false, forall_eq_or_imp, forall_eq, and_self, and_true, true_and, underL_R])))); done) ?_; simp only [↓wt, wu, wk0, wk1, wk2, wk3, Nat.reduceAdd, Nat.reduceEqDiff, Nat.reduceLeDiff, Nat.reduceLT, Nat.reduceMul, Int.reduceLE, Int.reduceLT, Int.reduceEq, Int.reduceNe, wk4, laidS, keepS, underL_R]
  refine loop_ruleG tabOk [1, 2, 3] (fun k : Nat => [(8, rnO k), (9, .c (.int .i64 k))]) (jnM (joinB a b)) (fun k => k ≤ a.length) (fun k => a.length - k) 0 (by omega) (fun k => by cases k <;> simp [jnM]) ?_ ?_
  · simp only [↓wt, wu, wk0, wk1, wk2, wk3, wkf, Nat.reduceAdd, Nat.reduceEqDiff, Nat.reduceLeDiff, Nat.reduceLT, Nat.reduceMul, Int.reduceLE, Int.reduceLT, Int.reduceEq, Int.reduceNe, wk4, laidS, keepS, jnM_0, rnO_0, under_e, underL_R]
  · intro k hk
    have e3 := wi_succ (k := k) (by omega)
    cases k with
    | zero =>
      simp only [jnM_0, rnO_0]
      simp only [↓wt, wu, wk0, wk1, wk2, wk3, Nat.reduceAdd, Nat.reduceEqDiff, Nat.reduceLeDiff, Nat.reduceLT, Nat.reduceMul, Int.reduceLE, Int.reduceLT, Int.reduceEq, Int.reduceNe, wk4, laidS, keepS]
      repeat' (first | (refine r_casesD (fun hp hb => ?_) (fun hp hb => ?_) <;> simp only [↓wt, wu, wk0, wk1, wk2, wk3, Nat.reduceAdd, Nat.reduceEqDiff, Nat.reduceLeDiff, Nat.reduceLT, Nat.reduceMul, Int.reduceLE, Int.reduceLT, Int.reduceEq, Int.reduceNe, wk4, laidS, keepS, hb]) | (refine r_casesN (fun hp hb => ?_) (fun hp hb => ?_) <;> simp only [↓wt, wu, wk0, wk1, wk2, wk3, Nat.reduceAdd, Nat.reduceEqDiff, Nat.reduceLeDiff, Nat.reduceLT, Nat.reduceMul, Int.reduceLE, Int.reduceLT, Int.reduceEq, Int.reduceNe, wk4, laidS, keepS, hb]) | (refine r_casesM (fun hp hb => ?_) (fun hp hb => ?_) <;> simp only [↓wt, wu, wk0, wk1, wk2, wk3, Nat.reduceAdd, Nat.reduceEqDiff, Nat.reduceLeDiff, Nat.reduceLT, Nat.reduceMul, Int.reduceLE, Int.reduceLT, Int.reduceEq, Int.reduceNe, wk4, laidS, keepS, hb]) | (refine r_casesB (fun hp hb => ?_) (fun hp hb => ?_) <;> simp only [↓wt, wu, wk0, wk1, wk2, wk3, Nat.reduceAdd, Nat.reduceEqDiff, Nat.reduceLeDiff, Nat.reduceLT, Nat.reduceMul, Int.reduceLE, Int.reduceLT, Int.reduceEq, Int.reduceNe, wk4, laidS, keepS, hb]) | (refine r_gcasesD (fun hp hb => ?_) (fun hp hb => ?_) <;> simp only [↓wt, wu, wk0, wk1, wk2, wk3, Nat.reduceAdd, Nat.reduceEqDiff, Nat.reduceLeDiff, Nat.reduceLT, Nat.reduceMul, Int.reduceLE, Int.reduceLT, Int.reduceEq, Int.reduceNe, wk4, laidS, keepS, hb]) | (refine r_gcasesN (fun hp hb => ?_) (fun hp hb => ?_) <;> simp only [↓wt, wu, wk0, wk1, wk2, wk3, Nat.reduceAdd, Nat.reduceEqDiff, Nat.reduceLeDiff, Nat.reduceLT, Nat.reduceMul, Int.reduceLE, Int.reduceLT, Int.reduceEq, Int.reduceNe, wk4, laidS, keepS, hb]) | (refine r_gcasesM (fun hp hb => ?_) (fun hp hb => ?_) <;> simp only [↓wt, wu, wk0, wk1, wk2, wk3, Nat.reduceAdd, Nat.reduceEqDiff, Nat.reduceLeDiff, Nat.reduceLT, Nat.reduceMul, Int.reduceLE, Int.reduceLT, Int.reduceEq, Int.reduceNe, wk4, laidS, keepS, hb]) | (refine r_gcasesB (fun hp hb => ?_) (fun hp hb => ?_) <;> simp only [↓wt, wu, wk0, wk1, wk2, wk3, Nat.reduceAdd, Nat.reduceEqDiff, Nat.reduceLeDiff, Nat.reduceLT, Nat.reduceMul, Int.reduceLE, Int.reduceLT, Int.reduceEq, Int.reduceNe, wk4, laidS, keepS, hb]) | ((with_reducible refine And.intro ?_ ?_); omega) | fail)
      · have hj := join_at h1 h2 (k := 0) (by omega)
        have m4 := rrowJ_call (rowAt a 0) (rowAt b 0) hj.1 hj.2
        rw [← joinB_at (by omega) (by omega)] at m4
        refine draw_rule4 tabOk mixed [(49, 0)] [0, 0, 0, 0, 0, 0, 0, 0, 3, 0, 0, 0, 4, 1, 0] [0, 0, 0, 0, 0, 0, 0, 0, 0, 0, 0, 0, 1, 0, 0] [[], [], [0, 1], [0, 1, 2], [], [], [4, 5], [4, 5, 6], [0, 1, 2, 3, 4, 5, 6, 7], [0, 1, 2, 3, 4, 5, 6, 7, 8], [0, 1, 2, 3, 4, 5, 6, 7, 8, 9], [0, 1, 2, 3, 4, 5, 6, 7, 8, 9], [], [0, 1, 2, 3, 4, 5, 6, 7, 8, 9, 10, 12], [0, 1, 2, 3, 4, 5, 6, 7, 8, 9, 10, 11, 12, 13]] (by kernel_rfl) (by kernel_rfl) ?_
        simp only [↓wt, wu, wk0, wk1, wk2, wk3, Nat.reduceAdd, Nat.reduceEqDiff, Nat.reduceLeDiff, Nat.reduceLT, Nat.reduceMul, Int.reduceLE, Int.reduceLT, Int.reduceEq, Int.reduceNe, wk4, laidS, keepS, elem_R, RowV_eq]
        repeat (refine And.intro (by omega) ?_)
        refine d_pureC (r := .t [RowV (rowAt (joinB a b) 0), .c (.bool true)]) (fun M0 => icall_drop [] m4 ⟨arg_row, arg_row, trivial⟩ okR_rowT ⟨rfl, rfl⟩) ?_
        simp only [↓wt, wu, wk0, wk1, wk2, wk3, Nat.reduceAdd, Nat.reduceEqDiff, Nat.reduceLeDiff, Nat.reduceLT, Nat.reduceMul, Int.reduceLE, Int.reduceLT, Int.reduceEq, Int.reduceNe, wk4, laidS, keepS, RowV_eq]
        refine d_heavyX (by simp only [↓wt, wu, wk0, wk1, wk2, wk3, Nat.reduceAdd, Nat.reduceEqDiff, Nat.reduceLeDiff, Nat.reduceLT, Nat.reduceMul, Int.reduceLE, Int.reduceLT, Int.reduceEq, Int.reduceNe, wk4, laidS, keepS, Cell]; (repeat (first | refine And.intro (by omega) ?_ | refine And.intro (pureB _) ?_ | refine And.intro (pureI _) ?_ | refine And.intro ⟨pureB _, pureB _⟩ ?_ | refine And.intro ⟨pureB _, pureI _⟩ ?_ | refine And.intro ⟨pureI _, pureB _⟩ ?_ | refine And.intro ⟨pureI _, pureI _⟩ ?_)); exact ⟨rfl, rfl⟩) ?_
        simp only [↓wt, wu, wk0, wk1, wk2, wk3, Nat.reduceAdd, Nat.reduceEqDiff, Nat.reduceLeDiff, Nat.reduceLT, Nat.reduceMul, Int.reduceLE, Int.reduceLT, Int.reduceEq, Int.reduceNe, wk4, laidS, keepS, Cell]
        have hs1 := takeR_snoc (l := joinB a b) (k := 0) (by omega)
        rw [List.take_zero, List.map_nil, List.nil_append, RowV_eq, Nat.zero_add] at hs1
        refine ⟨1, by omega, by omega, ?_⟩
        simp only [↓wt, wu, wk0, wk1, wk2, wk3, wkf, Nat.reduceAdd, Nat.reduceEqDiff, Nat.reduceLeDiff, Nat.reduceLT, Nat.reduceMul, Int.reduceLE, Int.reduceLT, Int.reduceEq, Int.reduceNe, wk4, laidS, keepS, e3, jnM_s, rnO_s, under_e, underL_R, hs1]
        exact congrArg AV.c (congrArg (Value.int IntKind.i64) e3)
      · omega
    | succ k =>
      have htl : ((joinB a b).take (k + 1)).length = k + 1 := by rw [List.length_take]; omega
      simp only [jnM_s, rnO_s]
      simp only [↓wt, wu, wk0, wk1, wk2, wk3, Nat.reduceAdd, Nat.reduceEqDiff, Nat.reduceLeDiff, Nat.reduceLT, Nat.reduceMul, Int.reduceLE, Int.reduceLT, Int.reduceEq, Int.reduceNe, wk4, laidS, keepS]
      refine r_casesD (fun hp hb => ?_) (fun hp hb => ?_) <;> simp only [↓wt, wu, wk0, wk1, wk2, wk3, Nat.reduceAdd, Nat.reduceEqDiff, Nat.reduceLeDiff, Nat.reduceLT, Nat.reduceMul, Int.reduceLE, Int.reduceLT, Int.reduceEq, Int.reduceNe, wk4, laidS, keepS, hb]
      · have hj := join_at h1 h2 (k := k + 1) (by omega)
        have m4 := rrowJ_call (rowAt a (k + 1)) (rowAt b (k + 1)) hj.1 hj.2
        rw [← joinB_at (by omega) (by omega)] at m4
        refine draw_rule4 tabOk mixed [(49, 0)] [0, 0, 0, 0, 0, 0, 0, 0, 3, 0, 0, 0, 4, 1, 0] [0, 0, 0, 0, 0, 0, 0, 0, 0, 0, 0, 0, 4, 0, 0] [[], [], [0, 1], [0, 1, 2], [], [], [4, 5], [4, 5, 6], [0, 1, 2, 3, 4, 5, 6, 7], [0, 1, 2, 3, 4, 5, 6, 7, 8], [0, 1, 2, 3, 4, 5, 6, 7, 8, 9], [0, 1, 2, 3, 4, 5, 6, 7, 8, 9], [], [0, 1, 2, 3, 4, 5, 6, 7, 8, 9, 10, 12], [0, 1, 2, 3, 4, 5, 6, 7, 8, 9, 10, 11, 12, 13]] (by kernel_rfl) (by kernel_rfl) ?_
        simp only [↓wt, wu, wk0, wk1, wk2, wk3, Nat.reduceAdd, Nat.reduceEqDiff, Nat.reduceLeDiff, Nat.reduceLT, Nat.reduceMul, Int.reduceLE, Int.reduceLT, Int.reduceEq, Int.reduceNe, wk4, laidS, keepS, elem_R, RowV_eq]
        repeat (refine And.intro (by omega) ?_)
        refine d_pureC (r := .t [RowV (rowAt (joinB a b) (k + 1)), .c (.bool true)]) (fun M0 => icall_drop [] m4 ⟨arg_row, arg_row, trivial⟩ okR_rowT ⟨rfl, rfl⟩) ?_
        simp only [↓wt, wu, wk0, wk1, wk2, wk3, Nat.reduceAdd, Nat.reduceEqDiff, Nat.reduceLeDiff, Nat.reduceLT, Nat.reduceMul, Int.reduceLE, Int.reduceLT, Int.reduceEq, Int.reduceNe, wk4, laidS, keepS, RowV_eq]
        refine d_heavyX (by simp only [↓wt, wu, wk0, wk1, wk2, wk3, Nat.reduceAdd, Nat.reduceEqDiff, Nat.reduceLeDiff, Nat.reduceLT, Nat.reduceMul, Int.reduceLE, Int.reduceLT, Int.reduceEq, Int.reduceNe, wk4, laidS, keepS, Cell]; (repeat (first | refine And.intro (by omega) ?_ | refine And.intro (pureB _) ?_ | refine And.intro (pureI _) ?_ | refine And.intro ⟨pureB _, pureB _⟩ ?_ | refine And.intro ⟨pureB _, pureI _⟩ ?_ | refine And.intro ⟨pureI _, pureB _⟩ ?_ | refine And.intro ⟨pureI _, pureI _⟩ ?_)); exact ⟨rfl, rfl⟩) ?_
        have hs1 := takeR_snoc (l := joinB a b) (k := k + 1) (by omega)
        rw [RowV_eq] at hs1
        simp only [↓wt, wu, wk0, wk1, wk2, wk3, Nat.reduceAdd, Nat.reduceEqDiff, Nat.reduceLeDiff, Nat.reduceLT, Nat.reduceMul, Int.reduceLE, Int.reduceLT, Int.reduceEq, Int.reduceNe, wk4, laidS, keepS, Cell, htl, hs1]
        repeat (refine And.intro (by omega) ?_)
        refine ⟨k + 1 + 1, by omega, by omega, ?_⟩
        simp only [↓wt, wu, wk0, wk1, wk2, wk3, wkf, Nat.reduceAdd, Nat.reduceEqDiff, Nat.reduceLeDiff, Nat.reduceLT, Nat.reduceMul, Int.reduceLE, Int.reduceLT, Int.reduceEq, Int.reduceNe, wk4, laidS, keepS, e3, jnM_s, rnO_s, under_e, underL_R, hs1, htl]
      · have hkl : k + 1 = a.length := by omega
        have hta : (joinB a b).take (k + 1) = joinB a b := List.take_of_length_le (by omega)
        simp only [hta]
        refine icall_keep [3] m3 ⟨arg_conf', arg_own (by simp) rfl (by simp [hjl]; omega) (pureR _), trivial⟩ (.c _) ?_
        simp only [↓wt, wu, wk0, wk1, wk2, wk3, Nat.reduceAdd, Nat.reduceEqDiff, Nat.reduceLeDiff, Nat.reduceLT, Nat.reduceMul, Int.reduceLE, Int.reduceLT, Int.reduceEq, Int.reduceNe, wk4, laidS, keepS]
        refine r_casesN (fun h3 hb => ?_) (fun h3 hb => ?_) <;> simp only [↓wt, wu, wk0, wk1, wk2, wk3, Nat.reduceAdd, Nat.reduceEqDiff, Nat.reduceLeDiff, Nat.reduceLT, Nat.reduceMul, Int.reduceLE, Int.reduceLT, Int.reduceEq, Int.reduceNe, wk4, laidS, keepS, hb]
        · simp only [↓wt, wu, wk0, wk1, wk2, wk3, Nat.reduceAdd, Nat.reduceEqDiff, Nat.reduceLeDiff, Nat.reduceLT, Nat.reduceMul, Int.reduceLE, Int.reduceLT, Int.reduceEq, Int.reduceNe, wk4, laidS, keepS, Try.results32]
          have hr : joinR c a b = (joinB a b, 0) := by rw [joinR, if_neg hg, if_neg fun h => h h3]
          rw [hr]
          exact exp_tA (xT_cons (xA_frz (off := 0) rfl (by simp [hjl]; omega) rfl (pureR _)) (xT_cons xA_c xT_nil))
        · simp only [↓wt, wu, wk0, wk1, wk2, wk3, Nat.reduceAdd, Nat.reduceEqDiff, Nat.reduceLeDiff, Nat.reduceLT, Nat.reduceMul, Int.reduceLE, Int.reduceLT, Int.reduceEq, Int.reduceNe, wk4, laidS, keepS, Try.results32]
          exact expR_nil (by rw [joinR, if_neg hg, if_pos h3])
end Go.Ab
