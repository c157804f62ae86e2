/- Rights: new books. -/
import Derived.Test.YtblnakmeaokemabRt9
import Derived.Test.YtblnakmeaokemabAbG8
set_option linter.unusedSimpArgs false
set_option linter.unusedVariables false
set_option linter.constructorNameAsVariable false
set_option maxRecDepth 100000
namespace Go.Ab
open Go Go.Proofs Go.RowKit

/-- Books without anything. -/
def newB (c : Conf) : List RowD := if MayC c then List.replicate c.n.toNat ⟨0, 0, List.replicate c.n.toNat 0⟩ else []
def nwX (n k : Nat) : List AV := (List.replicate k (⟨0, 0, List.replicate n 0⟩ : RowD)).map RowV ++ List.replicate (n - k) (.g [.c (.int .i64 0), .c (.int .i64 0), .c (.slice none 0 0)])
theorem nwX_len {n k : Nat} (h : k ≤ n) : (nwX n k).length = n := by simp [nwX]; omega
theorem nwX_elem {n k : Nat} (h : k < n) {K : AV → Prop} : Elem (nwX n k) k K = K (.g [.c (.int .i64 0), .c (.int .i64 0), .c (.slice none 0 0)]) := by
  have hk : k < (nwX n k).length := by rw [nwX_len (by omega)]; exact h
  have : (nwX n k)[k] = .g [.c (.int .i64 0), .c (.int .i64 0), .c (.slice none 0 0)] := by
    simp only [nwX]
    rw [List.getElem_append_right (by simp)]
    simp
  simp only [Elem, hk, exists_true_left, this]
theorem nwX_set {n k : Nat} (h : k < n) : (nwX n k).set k (RowV ⟨0, 0, List.replicate n 0⟩) = nwX n (k + 1) := by
  simp only [nwX]
  rw [List.set_append_right _ _ (by simp)]
  simp only [List.length_map, List.length_replicate, Nat.sub_self]
  rw [show n - k = (n - (k + 1)) + 1 by omega, List.replicate_succ, List.set_cons_zero, List.replicate_succ', List.map_append, List.append_assoc]
  rfl
theorem mem_nwX {n k : Nat} {x : AV} (h : x ∈ nwX n k) : (∃ r, x = RowV r) ∨ x = .g [.c (.int .i64 0), .c (.int .i64 0), .c (.slice none 0 0)] := by
  rcases List.mem_append.1 h with h | h
  · obtain ⟨r, _, rfl⟩ := List.mem_map.1 h
    exact .inl ⟨r, rfl⟩
  · exact .inr (List.eq_of_mem_replicate h)
theorem underL_nw {n k m : Nat} : UnderL m (nwX n k) = True := eq_true (underL_mem fun a ha x hx => by
  rcases mem_nwX ha with ⟨r, rfl⟩ | rfl
  · exact under_RowV r x hx
  · simp only [AV.cells, List.mem_cons, List.not_mem_nil, or_false] at hx
    rcases hx with rfl | rfl | rfl <;> exact .c _)
theorem bok_nw {M : Mem} {n k id : Nat} {x : AV} (h : ∀ c ∈ x.cells, FOk M id c) : ∀ y ∈ (nwX n k).set k x, ∀ c ∈ y.cells, FOk M id c := fun y hy c hc => by
  rcases List.mem_or_eq_of_mem_set hy with hy | rfl
  · rcases mem_nwX hy with ⟨r, rfl⟩ | rfl
    · simp only [RowV, RowA, AV.cells, List.mem_cons, List.not_mem_nil, or_false] at hc
      rcases hc with rfl | rfl | rfl <;> trivial
    · simp only [AV.cells, List.mem_cons, List.not_mem_nil, or_false] at hc
      rcases hc with rfl | rfl | rfl <;> trivial
  · exact h c hc
theorem frz_nw {M : Mem} {n k id : Nat} : (nwX n k).map (frzE M id) = nwX n k := frz_data fun x hx => by
  rcases mem_nwX hx with ⟨r, rfl⟩ | rfl <;> rfl
theorem nwX_0 {n : Nat} : nwX n 0 = List.replicate n (.g [.c (.int .i64 0), .c (.int .i64 0), .c (.slice none 0 0)]) := by simp [nwX]
theorem nwX_n {n : Nat} : nwX n n = (List.replicate n (⟨0, 0, List.replicate n 0⟩ : RowD)).map RowV := by simp [nwX]
theorem repI {n : Nat} : List.replicate n (AV.c (.int .i64 0)) = (List.replicate n 0).map encI := by rw [List.map_replicate]; rfl
theorem new_call (c : Conf) : PCall Try.prog 16 [ConfA c] (BooksV (newB c)) := by
  have m1 := rtmay_call c
  refine pcall_body tabOk Try.func16 rfl rfl (by rw [Try.ntmps16]; simp) ?_
  simp only [Try.ntmps16, ConfA]
  simp only [↓wt, wu, wk0, wk1, wk2, wk3, Nat.reduceAdd, Nat.reduceEqDiff, Nat.reduceLeDiff, Nat.reduceLT, Nat.reduceMul, Int.reduceLE, Int.reduceLT, Int.reduceEq, Int.reduceNe, wk4, laidS, keepS]
  refine icall_drop [] m1 ⟨arg_conf', trivial⟩ (.c _) ?_
  simp only [↓wt, wu, wk0, wk1, wk2, wk3, Nat.reduceAdd, Nat.reduceEqDiff, Nat.reduceLeDiff, Nat.reduceLT, Nat.reduceMul, Int.reduceLE, Int.reduceLT, Int.reduceEq, Int.reduceNe, wk4, laidS, keepS]
  refine r_casesN (fun h0 hb => ?_) (fun h0 hb => ?_) <;> simp only [↓wt, wu, wk0, wk1, wk2, wk3, Nat.reduceAdd, Nat.reduceEqDiff, Nat.reduceLeDiff, Nat.reduceLT, Nat.reduceMul, Int.reduceLE, Int.reduceLT, Int.reduceEq, Int.reduceNe, wk4, laidS, keepS, hb]
  · have hn := h0.1
    refine make_same (.inl rfl) (by omega) (by dsimp only; omega) (by omega) ?_
    obtain ⟨n, hcn⟩ : ∃ n : Nat, c.n = n := ⟨c.n.toNat, by omega⟩
    have htn : c.n.toNat = n := by omega
    simp only [hcn, Int.toNat_natCast]
    simp only [↓wt, wu, wk0, wk1, wk2, wk3, Nat.reduceAdd, Nat.reduceEqDiff, Nat.reduceLeDiff, Nat.reduceLT, Nat.reduceMul, Int.reduceLE, Int.reduceLT, Int.reduceEq, Int.reduceNe, wk4, laidS, keepS, List.length_replicate]
    refine loop_ruleF tabOk [1, 3, 12] (fun k : Nat => [(13, .c (.int .i64 k))]) (fun k => ⟨[(0, ⟨23, 6, [ConfA ⟨n, c.q, c.r, c.p, c.k, c.c⟩]⟩), (1, ⟨49, 3, nwX n k⟩)], 2⟩) (fun k => k ≤ n) (fun k => n - k) 0 (by omega) (fun k => Nat.le_refl _) ?_ ?_
    · simp only [↓wt, wu, wk0, wk1, wk2, wk3, wkf, Nat.reduceAdd, Nat.reduceEqDiff, Nat.reduceLeDiff, Nat.reduceLT, Nat.reduceMul, Int.reduceLE, Int.reduceLT, Int.reduceEq, Int.reduceNe, wk4, laidS, keepS, nwX_0, ConfA, List.length_replicate]
      rw [← nwX_0, underL_nw]; trivial
    · intro k hk
      have hl := nwX_len hk
      simp only [ConfA]
      simp only [↓wt, wu, wk0, wk1, wk2, wk3, Nat.reduceAdd, Nat.reduceEqDiff, Nat.reduceLeDiff, Nat.reduceLT, Nat.reduceMul, Int.reduceLE, Int.reduceLT, Int.reduceEq, Int.reduceNe, wk4, laidS, keepS]
      repeat' (first | (refine r_casesD (fun hp hb => ?_) (fun hp hb => ?_) <;> simp only [↓wt, wu, wk0, wk1, wk2, wk3, Nat.reduceAdd, Nat.reduceEqDiff, Nat.reduceLeDiff, Nat.reduceLT, Nat.reduceMul, Int.reduceLE, Int.reduceLT, Int.reduceEq, Int.reduceNe, wk4, laidS, keepS, hb]) | (refine r_casesN (fun hp hb => ?_) (fun hp hb => ?_) <;> simp only [↓wt, wu, wk0, wk1, wk2, wk3, Nat.reduceAdd, Nat.reduceEqDiff, Nat.reduceLeDiff, Nat.reduceLT, Nat.reduceMul, Int.reduceLE, Int.reduceLT, Int.reduceEq, Int.reduceNe, wk4, laidS, keepS, hb]) | (refine r_casesM (fun hp hb => ?_) (fun hp hb => ?_) <;> simp only [↓wt, wu, wk0, wk1, wk2, wk3, Nat.reduceAdd, Nat.reduceEqDiff, Nat.reduceLeDiff, Nat.reduceLT, Nat.reduceMul, Int.reduceLE, Int.reduceLT, Int.reduceEq, Int.reduceNe, wk4, laidS, keepS, hb]) | (refine r_casesB (fun hp hb => ?_) (fun hp hb => ?_) <;> simp only [↓wt, wu, wk0, wk1, wk2, wk3, Nat.reduceAdd, Nat.reduceEqDiff, Nat.reduceLeDiff, Nat.reduceLT, Nat.reduceMul, Int.reduceLE, Int.reduceLT, Int.reduceEq, Int.reduceNe, wk4, laidS, keepS, hb]) | (refine r_gcasesD (fun hp hb => ?_) (fun hp hb => ?_) <;> simp only [↓wt, wu, wk0, wk1, wk2, wk3, Nat.reduceAdd, Nat.reduceEqDiff, Nat.reduceLeDiff, Nat.reduceLT, Nat.reduceMul, Int.reduceLE, Int.reduceLT, Int.reduceEq, Int.reduceNe, wk4, laidS, keepS, hb]) | (refine r_gcasesN (fun hp hb => ?_) (fun hp hb => ?_) <;> simp only [↓wt, wu, wk0, wk1, wk2, wk3, Nat.reduceAdd, Nat.reduceEqDiff, Nat.reduceLeDiff, Nat.reduceLT, Nat.reduceMul, Int.reduceLE, Int.reduceLT, Int.reduceEq, Int.reduceNe, wk4, laidS, keepS, hb]) | (refine r_gcasesM (fun hp hb => ?_) (fun hp hb => ?_) <;> simp only [↓wt, wu, wk0, wk1, wk2, wk3, Nat.reduceAdd, Nat.reduceEqDiff, Nat.reduceLeDiff, Nat.reduceLT, Nat.reduceMul, Int.reduceLE, Int.reduceLT, Int.reduceEq, Int.reduceNe, wk4, laidS, keepS, hb]) | (refine r_gcasesB (fun hp hb => ?_) (fun hp hb => ?_) <;> simp only [↓wt, wu, wk0, wk1, wk2, wk3, Nat.reduceAdd, Nat.reduceEqDiff, Nat.reduceLeDiff, Nat.reduceLT, Nat.reduceMul, Int.reduceLE, Int.reduceLT, Int.reduceEq, Int.reduceNe, wk4, laidS, keepS, hb]) | ((with_reducible refine And.intro ?_ ?_); omega) | fail)
      · refine make_same (.inr (by decide)) (by omega) (by dsimp only; omega) (by omega) ?_
        have hkn : k < n := by omega
        have e3 := wi_succ (k := k) (by omega)
        simp only [Int.toNat_natCast]
        simp only [↓wt, wu, wk0, wk1, wk2, wk3, Nat.reduceAdd, Nat.reduceEqDiff, Nat.reduceLeDiff, Nat.reduceLT, Nat.reduceMul, Int.reduceLE, Int.reduceLT, Int.reduceEq, Int.reduceNe, wk4, laidS, keepS, List.length_replicate, repI]
        repeat (refine And.intro (by omega) ?_)
        rw [nwX_elem hkn]
        simp only [↓wt, wu, wk0, wk1, wk2, wk3, Nat.reduceAdd, Nat.reduceEqDiff, Nat.reduceLeDiff, Nat.reduceLT, Nat.reduceMul, Int.reduceLE, Int.reduceLT, Int.reduceEq, Int.reduceNe, wk4, laidS, keepS, Cell, List.length_replicate]
        refine .step 2 [1, 3, 12, 13] ⟨?_, ?_, trivial⟩ ?_ (.done ?_)
        · exact bok_conf (c := ⟨n, c.q, c.r, c.p, c.k, c.c⟩)
        · refine bok_nw fun d hd => ?_
          simp only [AV.cells, List.mem_cons, List.not_mem_nil, or_false] at hd
          rcases hd with rfl | rfl | rfl
          · trivial
          · trivial
          · exact fun _ => ⟨_, rfl, by simp, pureI _⟩
        · simp only [↓wt, wu, wk0, wk1, wk2, wk3, Nat.reduceAdd, Nat.reduceEqDiff, Nat.reduceLeDiff, Nat.reduceLT, Nat.reduceMul, Int.reduceLE, Int.reduceLT, Int.reduceEq, Int.reduceNe, wk4, laidS, keepS]
        · refine ⟨k + 1, by omega, by omega, ?_⟩
          have hset := nwX_set hkn
          rw [RowV_eq] at hset
          simp only [↓wt, wu, wk0, wk1, wk2, wk3, wkf, Nat.reduceAdd, Nat.reduceEqDiff, Nat.reduceLeDiff, Nat.reduceLT, Nat.reduceMul, Int.reduceLE, Int.reduceLT, Int.reduceEq, Int.reduceNe, wk4, laidS, keepS, List.map_set, frz_nw, hset, e3, underL_nw, List.length_set]
      · simp only [↓wt, wu, wk0, wk1, wk2, wk3, Nat.reduceAdd, Nat.reduceEqDiff, Nat.reduceLeDiff, Nat.reduceLT, Nat.reduceMul, Int.reduceLE, Int.reduceLT, Int.reduceEq, Int.reduceNe, wk4, laidS, keepS, Try.results16]
        have hkn : k = n := by omega
        subst hkn
        rw [newB, if_pos h0, htn]
        exact exp_frz (off := 0) rfl (by simp [hl]) nwX_n (by rw [pureL_eq, underL_nw]; trivial)
  · simp only [↓wt, wu, wk0, wk1, wk2, wk3, Nat.reduceAdd, Nat.reduceEqDiff, Nat.reduceLeDiff, Nat.reduceLT, Nat.reduceMul, Int.reduceLE, Int.reduceLT, Int.reduceEq, Int.reduceNe, wk4, laidS, keepS, Try.results16]
    rw [newB, if_neg h0]
    exact exp_l trivial okR_nil
def rnM (n : Nat) : Nat → Mem
  | 0 => ⟨[], 1⟩
  | k + 1 => ⟨[(3, ⟨49, 3, (List.replicate (k + 1) (⟨0, 0, List.replicate n 0⟩ : RowD)).map RowV⟩)], 4⟩
def rnO : Nat → AV
  | 0 => .c (.slice none 0 0)
  | k + 1 => .s 3 0 (k + 1)
theorem rnM_0 {n : Nat} : rnM n 0 = ⟨[], 1⟩ := rfl
theorem rnM_s {n k : Nat} : rnM n (k + 1) = ⟨[(3, ⟨49, 3, (List.replicate (k + 1) (⟨0, 0, List.replicate n 0⟩ : RowD)).map RowV⟩)], 4⟩ := rfl
theorem rnO_0 : rnO 0 = .c (.slice none 0 0) := rfl
theorem rnO_s {k : Nat} : rnO (k + 1) = .s 3 0 (k + 1) := rfl
theorem repR_snoc {n k : Nat} : (List.replicate k (⟨0, 0, List.replicate n 0⟩ : RowD)).map RowV ++ [.g [.c (.int .i64 0), .c (.int .i64 0), .l 1 ((List.replicate n 0).map encI)]] = (List.replicate (k + 1) (⟨0, 0, List.replicate n 0⟩ : RowD)).map RowV := by
  rw [List.replicate_succ', List.map_append]
  rfl
theorem rrtnew_call (c : Conf) : PCall Try.prog 17 [ConfA c] (BooksV (newB c)) := by
  have m1 := rrtmay_call c
  refine pcall_body tabOk Try.func17 rfl rfl (by rw [Try.ntmps17]; simp) ?_
  simp only [Try.ntmps17, ConfA]
  simp only [↓wt, wu, wk0, wk1, wk2, wk3, Nat.reduceAdd, Nat.reduceEqDiff, Nat.reduceLeDiff, Nat.reduceLT, Nat.reduceMul, Int.reduceLE, Int.reduceLT, Int.reduceEq, Int.reduceNe, wk4, laidS, keepS]
  refine freeze_rule 0 [1, 3, 4] (by simp only [↓wt, wu, wk0, wk1, wk2, wk3, Nat.reduceAdd, Nat.reduceEqDiff, Nat.reduceLeDiff, Nat.reduceLT, Nat.reduceMul, Int.reduceLE, Int.reduceLT, Int.reduceEq, Int.reduceNe, wk4, laidS, keepS]; (try (repeat' (first | (exact fun _ => by simp only [pureL_eq, underL_cons, underL_nil, AV.cells, under_l, under_c, under_g, under_e, under_f, underL_B, underL_I, underL_Bs, under_Bs, List.mem_cons, List.not_mem_nil, or_false, forall_eq_or_imp, forall_eq, and_self, and_true, true_and]) | ((with_reducible refine And.intro ?_ ?_)) | (intro _) | omega | (simp only [pureL_eq, underL_cons, underL_nil, AV.cells, under_l, under_c, under_g, under_e, under_f, underL_B, underL_I, underL_Bs, under_Bs, List.mem_cons, List.not_mem_nil, or_false, forall_eq_or_imp, forall_eq, and_self, and_true, true_and])))); done) (by simp only [↓wt, wu, wk0, wk1, wk2, wk3, Nat.reduceAdd, Nat.reduceEqDiff, Nat.reduceLeDiff, Nat.reduceLT, Nat.reduceMul, Int.reduceLE, Int.reduceLT, Int.reduceEq, Int.reduceNe, wk4, laidS, keepS]; (try (repeat' (first | (exact fun _ => by simp only [pureL_eq, underL_cons, underL_nil, AV.cells, under_l, under_c, under_g, under_e, under_f, underL_B, underL_I, underL_Bs, under_Bs, List.mem_cons, List.not_mem_nil, or_false, forall_eq_or_imp, forall_eq, and_self, and_true, true_and]) | ((with_reducible refine And.intro ?_ ?_)) | (intro _) | omega | (simp only [pureL_eq, underL_cons, underL_nil, AV.cells, under_l, under_c, under_g, under_e, under_f, underL_B, underL_I, underL_Bs, under_Bs, List.mem_cons, List.not_mem_nil, or_false, forall_eq_or_imp, forall_eq, and_self, and_true, true_and])))); done) ?_; simp only [↓wt, wu, wk0, wk1, wk2, wk3, Nat.reduceAdd, Nat.reduceEqDiff, Nat.reduceLeDiff, Nat.reduceLT, Nat.reduceMul, Int.reduceLE, Int.reduceLT, Int.reduceEq, Int.reduceNe, wk4, laidS, keepS]
  by_cases h0 : MayC c
  · have hn := h0.1
    obtain ⟨n, hcn⟩ : ∃ n : Nat, c.n = n := ⟨c.n.toNat, by omega⟩
    have htn : c.n.toNat = n := by omega
    have hb : decide (MayC c) = true := decide_eq_true h0
    refine loop_ruleF tabOk [1] (fun k : Nat => [(3, rnO k), (4, .c (.int .i64 k))]) (rnM n) (fun k => k ≤ n) (fun k => n - k) 0 (by omega) (fun k => by cases k <;> simp [rnM]) ?_ ?_
    · simp only [↓wt, wu, wk0, wk1, wk2, wk3, wkf, Nat.reduceAdd, Nat.reduceEqDiff, Nat.reduceLeDiff, Nat.reduceLT, Nat.reduceMul, Int.reduceLE, Int.reduceLT, Int.reduceEq, Int.reduceNe, wk4, laidS, keepS, rnO_0, rnM_0, under_e]
    · intro k hk
      have e3 := wi_succ (k := k) (by omega)
      cases k with
      | zero =>
        simp only [rnO_0, rnM_0]
        simp only [↓wt, wu, wk0, wk1, wk2, wk3, Nat.reduceAdd, Nat.reduceEqDiff, Nat.reduceLeDiff, Nat.reduceLT, Nat.reduceMul, Int.reduceLE, Int.reduceLT, Int.reduceEq, Int.reduceNe, wk4, laidS, keepS]
        refine icall_keep [] m1 ⟨arg_conf', trivial⟩ (.c _) ?_
        simp only [↓wt, wu, wk0, wk1, wk2, wk3, Nat.reduceAdd, Nat.reduceEqDiff, Nat.reduceLeDiff, Nat.reduceLT, Nat.reduceMul, Int.reduceLE, Int.reduceLT, Int.reduceEq, Int.reduceNe, wk4, laidS, keepS, hb]
        refine r_casesD (fun hp hb => ?_) (fun hp hb => ?_) <;> simp only [↓wt, wu, wk0, wk1, wk2, wk3, Nat.reduceAdd, Nat.reduceEqDiff, Nat.reduceLeDiff, Nat.reduceLT, Nat.reduceMul, Int.reduceLE, Int.reduceLT, Int.reduceEq, Int.reduceNe, wk4, laidS, keepS, hb]
        · refine make_same (.inr (by decide)) (by omega) (by dsimp only; omega) (by omega) ?_
          simp only [htn]
          simp only [↓wt, wu, wk0, wk1, wk2, wk3, Nat.reduceAdd, Nat.reduceEqDiff, Nat.reduceLeDiff, Nat.reduceLT, Nat.reduceMul, Int.reduceLE, Int.reduceLT, Int.reduceEq, Int.reduceNe, wk4, laidS, keepS, List.length_replicate, repI, Cell]
          refine .step 1 [1, 3, 4] (by simp only [↓wt, wu, wk0, wk1, wk2, wk3, Nat.reduceAdd, Nat.reduceEqDiff, Nat.reduceLeDiff, Nat.reduceLT, Nat.reduceMul, Int.reduceLE, Int.reduceLT, Int.reduceEq, Int.reduceNe, wk4, laidS, keepS]; exact ⟨fun _ => ⟨by simp, pureI _⟩, fun _ => ⟨by simp, pureI _⟩⟩) (by simp only [↓wt, wu, wk0, wk1, wk2, wk3, Nat.reduceAdd, Nat.reduceEqDiff, Nat.reduceLeDiff, Nat.reduceLT, Nat.reduceMul, Int.reduceLE, Int.reduceLT, Int.reduceEq, Int.reduceNe, wk4, laidS, keepS]) (.done ?_)
          refine ⟨1, by omega, by omega, ?_⟩
          have hs := repR_snoc (n := n) (k := 0)
          rw [List.replicate_zero, List.map_nil, List.nil_append] at hs
          simp only [↓wt, wu, wk0, wk1, wk2, wk3, wkf, Nat.reduceAdd, Nat.reduceEqDiff, Nat.reduceLeDiff, Nat.reduceLT, Nat.reduceMul, Int.reduceLE, Int.reduceLT, Int.reduceEq, Int.reduceNe, wk4, laidS, keepS, rnO_s, rnM_s, under_e, underL_R, hs, e3]
          exact congrArg AV.c (congrArg (Value.int IntKind.i64) e3)
        · omega
      | succ k =>
        simp only [rnO_s, rnM_s]
        simp only [↓wt, wu, wk0, wk1, wk2, wk3, Nat.reduceAdd, Nat.reduceEqDiff, Nat.reduceLeDiff, Nat.reduceLT, Nat.reduceMul, Int.reduceLE, Int.reduceLT, Int.reduceEq, Int.reduceNe, wk4, laidS, keepS]
        refine icall_keep [] m1 ⟨arg_conf', trivial⟩ (.c _) ?_
        simp only [↓wt, wu, wk0, wk1, wk2, wk3, Nat.reduceAdd, Nat.reduceEqDiff, Nat.reduceLeDiff, Nat.reduceLT, Nat.reduceMul, Int.reduceLE, Int.reduceLT, Int.reduceEq, Int.reduceNe, wk4, laidS, keepS, hb]
        refine r_casesD (fun hp hb => ?_) (fun hp hb => ?_) <;> simp only [↓wt, wu, wk0, wk1, wk2, wk3, Nat.reduceAdd, Nat.reduceEqDiff, Nat.reduceLeDiff, Nat.reduceLT, Nat.reduceMul, Int.reduceLE, Int.reduceLT, Int.reduceEq, Int.reduceNe, wk4, laidS, keepS, hb]
        · refine make_same (.inr (by decide)) (by omega) (by dsimp only; omega) (by omega) ?_
          simp only [htn]
          simp only [↓wt, wu, wk0, wk1, wk2, wk3, Nat.reduceAdd, Nat.reduceEqDiff, Nat.reduceLeDiff, Nat.reduceLT, Nat.reduceMul, Int.reduceLE, Int.reduceLT, Int.reduceEq, Int.reduceNe, wk4, laidS, keepS, List.length_replicate, repI, Cell]
          repeat (refine And.intro (by omega) ?_)
          refine .step 4 [1, 3, 4] (by simp only [↓wt, wu, wk0, wk1, wk2, wk3, Nat.reduceAdd, Nat.reduceEqDiff, Nat.reduceLeDiff, Nat.reduceLT, Nat.reduceMul, Int.reduceLE, Int.reduceLT, Int.reduceEq, Int.reduceNe, wk4, laidS, keepS, frz_R, bok_R, bok_app, List.map_append, repR_snoc, List.length_replicate]; (try (repeat' (first | (exact fun _ => by simp only [pureL_eq, underL_cons, underL_nil, AV.cells, under_l, under_c, under_g, under_e, under_f, underL_B, underL_I, underL_Bs, under_Bs, List.mem_cons, List.not_mem_nil, or_false, forall_eq_or_imp, forall_eq, and_self, and_true, true_and, frz_R, bok_R, bok_app, List.map_append, repR_snoc, List.length_replicate]) | ((with_reducible refine And.intro ?_ ?_)) | (intro _) | omega | (simp only [pureL_eq, underL_cons, underL_nil, AV.cells, under_l, under_c, under_g, under_e, under_f, underL_B, underL_I, underL_Bs, under_Bs, List.mem_cons, List.not_mem_nil, or_false, forall_eq_or_imp, forall_eq, and_self, and_true, true_and, frz_R, bok_R, bok_app, List.map_append, repR_snoc, List.length_replicate])))); done) (by simp only [↓wt, wu, wk0, wk1, wk2, wk3, Nat.reduceAdd, Nat.reduceEqDiff, Nat.reduceLeDiff, Nat.reduceLT, Nat.reduceMul, Int.reduceLE, Int.reduceLT, Int.reduceEq, Int.reduceNe, wk4, laidS, keepS, frz_R, bok_R, bok_app, List.map_append, repR_snoc, List.length_replicate]; (try (repeat' (first | (exact fun _ => by simp only [pureL_eq, underL_cons, underL_nil, AV.cells, under_l, under_c, under_g, under_e, under_f, underL_B, underL_I, underL_Bs, under_Bs, List.mem_cons, List.not_mem_nil, or_false, forall_eq_or_imp, forall_eq, and_self, and_true, true_and, frz_R, bok_R, bok_app, List.map_append, repR_snoc, List.length_replicate]) | ((with_reducible refine And.intro ?_ ?_)) | (intro _) | omega | (simp only [pureL_eq, underL_cons, underL_nil, AV.cells, under_l, under_c, under_g, under_e, under_f, underL_B, underL_I, underL_Bs, under_Bs, List.mem_cons, List.not_mem_nil, or_false, forall_eq_or_imp, forall_eq, and_self, and_true, true_and, frz_R, bok_R, bok_app, List.map_append, repR_snoc, List.length_replicate])))); done) ?_; refine .done ?_; simp only [↓wt, wu, wk0, wk1, wk2, wk3, Nat.reduceAdd, Nat.reduceEqDiff, Nat.reduceLeDiff, Nat.reduceLT, Nat.reduceMul, Int.reduceLE, Int.reduceLT, Int.reduceEq, Int.reduceNe, wk4, laidS, keepS, frz_R, bok_R, bok_app, List.map_append, repR_snoc, List.length_replicate]
          refine ⟨k + 1 + 1, by omega, by omega, ?_⟩
          simp only [↓wt, wu, wk0, wk1, wk2, wk3, wkf, Nat.reduceAdd, Nat.reduceEqDiff, Nat.reduceLeDiff, Nat.reduceLT, Nat.reduceMul, Int.reduceLE, Int.reduceLT, Int.reduceEq, Int.reduceNe, wk4, laidS, keepS, rnO_s, rnM_s, under_e, underL_R, e3]
        · simp only [↓wt, wu, wk0, wk1, wk2, wk3, Nat.reduceAdd, Nat.reduceEqDiff, Nat.reduceLeDiff, Nat.reduceLT, Nat.reduceMul, Int.reduceLE, Int.reduceLT, Int.reduceEq, Int.reduceNe, wk4, laidS, keepS, Try.results17]
          have hkn : k + 1 = n := by omega
          rw [newB, if_pos h0, htn]
          subst hkn
          exact exp_frz (off := 0) rfl (by simp) rfl (pureR _)
  · have hb : decide (MayC c) = false := decide_eq_false h0
    refine loop_ruleC tabOk [1] (fun k : Nat => [(3, .c (.slice none 0 0)), (4, .c (.int .i64 0))]) (fun k => True) (fun k => 0) 0 trivial ?_ ?_
    · simp only [↓wt, wu, wk0, wk1, wk2, wk3, wkf, Nat.reduceAdd, Nat.reduceEqDiff, Nat.reduceLeDiff, Nat.reduceLT, Nat.reduceMul, Int.reduceLE, Int.reduceLT, Int.reduceEq, Int.reduceNe, wk4, laidS, keepS, under_e]
    · intro k hk
      simp only [↓wt, wu, wk0, wk1, wk2, wk3, Nat.reduceAdd, Nat.reduceEqDiff, Nat.reduceLeDiff, Nat.reduceLT, Nat.reduceMul, Int.reduceLE, Int.reduceLT, Int.reduceEq, Int.reduceNe, wk4, laidS, keepS]
      refine icall_keep [] m1 ⟨arg_conf', trivial⟩ (.c _) ?_
      simp only [↓wt, wu, wk0, wk1, wk2, wk3, Nat.reduceAdd, Nat.reduceEqDiff, Nat.reduceLeDiff, Nat.reduceLT, Nat.reduceMul, Int.reduceLE, Int.reduceLT, Int.reduceEq, Int.reduceNe, wk4, laidS, keepS, hb, Try.results17]
      rw [newB, if_neg h0]
      exact exp_l trivial okR_nil
end Go.Ab
