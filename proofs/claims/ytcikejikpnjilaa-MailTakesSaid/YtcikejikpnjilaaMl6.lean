/- Mail: what is taken. -/
import Derived.Test.YtcikejikpnjilaaTMl4
set_option linter.unusedSimpArgs false
set_option linter.unusedVariables false
set_option linter.constructorNameAsVariable false
set_option maxRecDepth 100000
namespace Go.Ab
open Go Go.Proofs Go.RowKit

/-- The looks that are read. -/
noncomputable def looksT (k : Nat) (s : RdT) : List (Int × Int) := (List.range k).map fun i => (rdV (stN (2 * i) s), rdV (stN (2 * i + 1) s))
theorem looksT_len (k : Nat) (s : RdT) : (looksT k s).length = k := by simp [looksT]
theorem looksT_succ (k : Nat) (s : RdT) : looksT (k + 1) s = looksT k s ++ [(rdV (stN (2 * k) s), rdV (rdS (stN (2 * k) s)))] := by
  rw [looksT, List.range_succ, List.map_append, ← stN_succ]; rfl
theorem stN_add : ∀ (m n : Nat) (s : RdT), stN (m + n) s = stN n (stN m s)
  | 0, n, s => by rw [Nat.zero_add]; rfl
  | m + 1, n, s => by rw [show m + 1 + n = (m + n) + 1 by omega]; exact stN_add m n (rdS s)
theorem mailX_mk (c : Conf) (b : List UInt8) (s4 : RdT) (h : s4 = afterR c (stN 3 (b, false))) (n : Nat) (hn : n = (takeB M63 c (stN 3 (b, false)).1).1.length) :
    mailX c b = ⟨rdV (b, false), rdV (stN 1 (b, false)), rdV (stN 2 (b, false)), (takeB M63 c (stN 3 (b, false)).1).1, rdV s4, rdV (stN 1 s4), rdV (stN 2 s4), rdV (stN 3 s4), rdV (stN 4 s4), rdV (stN 5 s4), looksT n (stN 6 s4)⟩ := by
  rw [mailX, ← h, ← hn, mkL]
  have g : ∀ j, j < 6 + 2 * n → (rdN (6 + 2 * n) s4).getD j 0 = rdV (stN j s4) := fun j hj => rdN_get _ _ _ hj
  rw [g 0 (by omega), g 1 (by omega), g 2 (by omega), g 3 (by omega), g 4 (by omega), g 5 (by omega)]
  have e : ((List.range n).map fun i => ((rdN (6 + 2 * n) s4).getD (6 + 2 * i) 0, (rdN (6 + 2 * n) s4).getD (7 + 2 * i) 0)) = looksT n (stN 6 s4) := by
    refine List.map_congr_left fun i hi => ?_
    have hi := List.mem_range.1 hi
    rw [g _ (by omega), g _ (by omega), ← stN_add, ← stN_add, show 6 + (2 * i + 1) = 7 + 2 * i by omega]
  rw [e]
  rfl
theorem mailE_mk (c : Conf) (b : List UInt8) (s4 : RdT) (h : s4 = afterR c (stN 3 (b, false))) (n : Nat) (hn : n = (takeB M63 c (stN 3 (b, false)).1).1.length) : mailE c b = stN (2 * n) (stN 6 s4) := by
  rw [mailE, ← h, ← hn, stN_add]
theorem takeB_16 (c : Conf) (b : List UInt8) : (takeB M63 c b).1.length ≤ 16 ∧ Lens (takeB M63 c b).1 := by
  rcases takeB_is (Nat.le_refl M63) (by decide) c b with ⟨_, h, _⟩ | ⟨_, h, _⟩
  · have hn := h.1.1
    have := h.2.1.1
    exact ⟨by omega, lens_dec ⟨by omega, fun r hr => by have := (right_mem h hr).1; omega⟩⟩
  · rw [h]; exact ⟨by decide, lens_dec (by decide)⟩
theorem argF_conf {f : Nat → Nat} {n : Nat} {c : Conf} : ArgF f n (.g [.c (.int .i64 c.n), .c (.int .i64 c.q), .c (.int .i64 c.r), .c (.int .i64 c.p), .c (.int .i64 c.k), .c (.int .i64 c.c)]) (ConfA c) :=
  .inl ⟨rfl, fun x hx => by
    simp only [List.mem_cons, List.not_mem_nil, or_false] at hx
    rcases hx with rfl | rfl | rfl | rfl | rfl | rfl <;> exact .c _⟩
theorem hd_conf {n : Nat} {c : Conf} : ∀ x ∈ [ConfA c], HdE n x := fun x hx => by
  rw [List.mem_singleton.1 hx]
  intro x hx
  simp only [List.mem_cons, List.not_mem_nil, or_false] at hx
  rcases hx with rfl | rfl | rfl | rfl | rfl | rfl <;> exact .c _
theorem xC_c {M : Mem} {v : Value} : ∃ f, ExpC M (.c v) (.c v) [] f := xC_pure (.refl _) (.c _)
theorem xA_m00 {M : Mem} : ∃ f, ExpA M (.g [.c (.int .i64 0), .c (.int .i64 0), .c (.int .i64 0), .c (.slice none 0 0), .c (.int .i64 0), .c (.int .i64 0), .c (.int .i64 0), .c (.int .i64 0), .c (.int .i64 0), .c (.int .i64 0), .c (.slice none 0 0)]) (MailV m00) [] f :=
  xA_g (xL_cons xC_c (xL_cons xC_c (xL_cons xC_c (xL_cons (xC_pure trivial okR_nil) (xL_cons xC_c (xL_cons xC_c (xL_cons xC_c (xL_cons xC_c (xL_cons xC_c (xL_cons xC_c (xL_cons (xC_pure trivial okR_nil) xL_nil)))))))))))
theorem exp_m00 {M : Mem} {p : MailD × Bool} (h : (m00, false) = p) : Exp M (.t [.g [.c (.int .i64 0), .c (.int .i64 0), .c (.int .i64 0), .c (.slice none 0 0), .c (.int .i64 0), .c (.int .i64 0), .c (.int .i64 0), .c (.int .i64 0), .c (.int .i64 0), .c (.int .i64 0), .c (.slice none 0 0)], .c (.bool false)]) (.t [MailV p.1, .c (.bool p.2)]) := by
  subst h; exact exp_tA (xT_cons xA_m00 (xT_cons xA_c xT_nil))
theorem exp_mail {M : Mem} {T : TypeId} {id : Nat} {m : MailD} {k : Nat} {p : MailD × Bool} (hp : (m, true) = p) (hk : k = m.e.length) (hm : M.get id = some ⟨T, 2, m.e.map LookV⟩) :
    Exp M (.t [.g [.c (.int .i64 m.f), .c (.int .i64 m.o), .c (.int .i64 m.ck), .l 3 (m.r.map RowV), .c (.int .i64 m.t), .c (.int .i64 m.w), .c (.int .i64 m.a), .c (.int .i64 m.k), .c (.int .i64 m.y), .c (.int .i64 m.p), .s id 0 k], .c (.bool true)]) (.t [MailV p.1, .c (.bool p.2)]) := by
  subst hp
  exact exp_tA (xT_cons (xA_g (xL_cons xC_c (xL_cons xC_c (xL_cons xC_c (xL_cons (xC_pure (.refl _) (.l _ _ (pureR _))) (xL_cons xC_c (xL_cons xC_c (xL_cons xC_c (xL_cons xC_c (xL_cons xC_c (xL_cons xC_c (xL_cons (xC_frz hm (by rw [hk, List.length_map, Nat.zero_add]) rfl (pureK _)) xL_nil)))))))))))) (xT_cons xA_c xT_nil))
set_option maxHeartbeats 8000000 in
theorem mltake_call (c : Conf) (b : List UInt8) (hl : b.length ≤ 1000000000) : PCall Try.prog 7 [ConfA c, Bs b] (.t [MailV (mailT c b).1, .c (.bool (mailT c b).2)]) := by
  refine pcall_body tabOk Try.func7 rfl rfl (by rw [Try.ntmps7]; simp) ?_
  simp only [Try.ntmps7, ConfA, Bs]
  obtain ⟨s2, h2⟩ : ∃ s : RdT, s = rdS (rdS (b, false)) := ⟨_, rfl⟩
  obtain ⟨v0, e0⟩ : ∃ v : Int, v = rdV (b, false) := ⟨_, rfl⟩
  obtain ⟨v1, e1⟩ : ∃ v : Int, v = rdV (rdS (b, false)) := ⟨_, rfl⟩
  have l2 : s2.1.length ≤ b.length := by rw [h2]; exact stN_len 2 (b, false)
  obtain ⟨s3, h3⟩ : ∃ s : RdT, s = rdS s2 := ⟨_, rfl⟩
  obtain ⟨v2, e2⟩ : ∃ v : Int, v = rdV s2 := ⟨_, rfl⟩
  have l3 : s3.1.length ≤ b.length := by rw [h3]; exact Nat.le_trans (rdS_len s2) l2
  obtain ⟨s4, h4⟩ : ∃ s : RdT, s = afterR c s3 := ⟨_, rfl⟩
  obtain ⟨rw, hr⟩ : ∃ r : List RowD, r = (takeB M63 c s3.1).1 := ⟨_, rfl⟩
  have hrl := takeB_16 c s3.1
  rw [← hr] at hrl
  have l4 : s4.1.length ≤ b.length := by rw [h4]; exact Nat.le_trans (takeB_rest c _) l3
  have hx : s3 = stN 3 (b, false) := by rw [h3, h2]; rfl
  have hmx := mailX_mk c b s4 (by rw [h4, hx]) rw.length (by rw [hr, hx])
  have hme := mailE_mk c b s4 (by rw [h4, hx]) rw.length (by rw [hr, hx])
  have hmt := mailX_eq c b
  rw [hme] at hmt
  rw [show rdV (b, false) = v0 from e0.symm, show rdV (stN 1 (b, false)) = v1 from e1.symm, show rdV (stN 2 (b, false)) = v2 by rw [e2, h2]; rfl, ← hx, ← hr] at hmx
  obtain ⟨s5, h5⟩ : ∃ s : RdT, s = rdS s4 := ⟨_, rfl⟩
  obtain ⟨v4, e4⟩ : ∃ v : Int, v = rdV s4 := ⟨_, rfl⟩
  have l5 : s5.1.length ≤ b.length := by rw [h5]; exact Nat.le_trans (rdS_len s4) l4
  obtain ⟨s6, h6⟩ : ∃ s : RdT, s = rdS s5 := ⟨_, rfl⟩
  obtain ⟨v5, e5⟩ : ∃ v : Int, v = rdV s5 := ⟨_, rfl⟩
  have l6 : s6.1.length ≤ b.length := by rw [h6]; exact Nat.le_trans (rdS_len s5) l5
  obtain ⟨s7, h7⟩ : ∃ s : RdT, s = rdS s6 := ⟨_, rfl⟩
  obtain ⟨v6, e6⟩ : ∃ v : Int, v = rdV s6 := ⟨_, rfl⟩
  have l7 : s7.1.length ≤ b.length := by rw [h7]; exact Nat.le_trans (rdS_len s6) l6
  obtain ⟨s8, h8⟩ : ∃ s : RdT, s = rdS s7 := ⟨_, rfl⟩
  obtain ⟨v7, e7⟩ : ∃ v : Int, v = rdV s7 := ⟨_, rfl⟩
  have l8 : s8.1.length ≤ b.length := by rw [h8]; exact Nat.le_trans (rdS_len s7) l7
  obtain ⟨s9, h9⟩ : ∃ s : RdT, s = rdS s8 := ⟨_, rfl⟩
  obtain ⟨v8, e8⟩ : ∃ v : Int, v = rdV s8 := ⟨_, rfl⟩
  have l9 : s9.1.length ≤ b.length := by rw [h9]; exact Nat.le_trans (rdS_len s8) l8
  obtain ⟨s10, h10⟩ : ∃ s : RdT, s = rdS s9 := ⟨_, rfl⟩
  obtain ⟨v9, e9⟩ : ∃ v : Int, v = rdV s9 := ⟨_, rfl⟩
  have l10 : s10.1.length ≤ b.length := by rw [h10]; exact Nat.le_trans (rdS_len s9) l9
  simp only [↓wt, wu, wk0, wk1, wk2, wk3, Nat.reduceAdd, Nat.reduceEqDiff, Nat.reduceLeDiff, Nat.reduceLT, Nat.reduceMul, Int.reduceLE, Int.reduceLT, Int.reduceEq, Int.reduceNe, wk4, laidS, keepS]
  refine ints_lend 2 3 4 [0, 1] (b, false) (by decide) rfl rfl rfl rfl hl (by simp) (by simp [isD]) (by decide) ?_
  simp only [↓wt, wu, wk0, wk1, wk2, wk3, Nat.reduceAdd, Nat.reduceEqDiff, Nat.reduceLeDiff, Nat.reduceLT, Nat.reduceMul, Int.reduceLE, Int.reduceLT, Int.reduceEq, Int.reduceNe, wk4, laidS, keepS, FillN, wr, wr1, stN, RdB, Bs, ptr_eq, rnI, nblt, rn0, rnC, rnE, rnR, rnB, putAll, Nat.reduceSub, Nat.sub_zero, Nat.not_lt_zero, Nat.zero_sub, Nat.sub_self, rn_I, rn_B]
  simp only [← h2, ← e0, ← e1]
  refine wide_lend 2 3 5 [2] s2 (by decide) rfl rfl rfl rfl (by omega) (by simp) (by simp [isD]) (by decide) ?_
  simp only [↓wt, wu, wk0, wk1, wk2, wk3, Nat.reduceAdd, Nat.reduceEqDiff, Nat.reduceLeDiff, Nat.reduceLT, Nat.reduceMul, Int.reduceLE, Int.reduceLT, Int.reduceEq, Int.reduceNe, wk4, laidS, keepS, FillN, wr, wr1, stN, RdB, Bs, ptr_eq, rnI, nblt, rn0, rnC, rnE, rnR, rnB, putAll, Nat.reduceSub, Nat.sub_zero, Nat.not_lt_zero, Nat.zero_sub, Nat.sub_self, rn_I, rn_B]
  simp only [← h3, ← e2]
  refine icall_lend [2] [RdB s3] (mlrows_call c s3 (by omega)) (by decide) ⟨⟨rfl, hd_Rd⟩, trivial⟩ ⟨.inl ⟨rfl, show 0 < 1 by decide⟩, argF_conf, trivial⟩ (.l _ _ (pureR _)) ⟨hd_Rd, hd_conf, trivial⟩ ?_
  simp only [↓wt, wu, wk0, wk1, wk2, wk3, Nat.reduceAdd, Nat.reduceEqDiff, Nat.reduceLeDiff, Nat.reduceLT, Nat.reduceMul, Int.reduceLE, Int.reduceLT, Int.reduceEq, Int.reduceNe, wk4, laidS, keepS, ConfA, RdB, Bs, rnI, nblt, rn0, rnC, rnE, rnR, rnB, putAll, Nat.reduceSub, Nat.sub_zero, Nat.not_lt_zero, Nat.zero_sub, Nat.sub_self, rn_I, rn_B]
  simp only [← h4, ← hr]
  have hpr : PureL (rw.map RowV) := pureR rw
  refine wide_lend 2 3 7 [4] s4 (by decide) rfl rfl rfl rfl (by omega) (by simp) (by simp [isD, hpr]) (by decide) ?_
  simp only [↓wt, wu, wk0, wk1, wk2, wk3, Nat.reduceAdd, Nat.reduceEqDiff, Nat.reduceLeDiff, Nat.reduceLT, Nat.reduceMul, Int.reduceLE, Int.reduceLT, Int.reduceEq, Int.reduceNe, wk4, laidS, keepS, FillN, wr, wr1, stN, RdB, Bs, ptr_eq, rnI, nblt, rn0, rnC, rnE, rnR, rnB, putAll, Nat.reduceSub, Nat.sub_zero, Nat.not_lt_zero, Nat.zero_sub, Nat.sub_self, rn_I, rn_B]
  simp only [← h5, ← e4]
  refine ints_lend 2 3 8 [5] s5 (by decide) rfl rfl rfl rfl (by omega) (by simp) (by simp [isD, hpr]) (by decide) ?_
  simp only [↓wt, wu, wk0, wk1, wk2, wk3, Nat.reduceAdd, Nat.reduceEqDiff, Nat.reduceLeDiff, Nat.reduceLT, Nat.reduceMul, Int.reduceLE, Int.reduceLT, Int.reduceEq, Int.reduceNe, wk4, laidS, keepS, FillN, wr, wr1, stN, RdB, Bs, ptr_eq, rnI, nblt, rn0, rnC, rnE, rnR, rnB, putAll, Nat.reduceSub, Nat.sub_zero, Nat.not_lt_zero, Nat.zero_sub, Nat.sub_self, rn_I, rn_B]
  simp only [← h6, ← e5]
  refine wide_lend 2 3 9 [6] s6 (by decide) rfl rfl rfl rfl (by omega) (by simp) (by simp [isD, hpr]) (by decide) ?_
  simp only [↓wt, wu, wk0, wk1, wk2, wk3, Nat.reduceAdd, Nat.reduceEqDiff, Nat.reduceLeDiff, Nat.reduceLT, Nat.reduceMul, Int.reduceLE, Int.reduceLT, Int.reduceEq, Int.reduceNe, wk4, laidS, keepS, FillN, wr, wr1, stN, RdB, Bs, ptr_eq, rnI, nblt, rn0, rnC, rnE, rnR, rnB, putAll, Nat.reduceSub, Nat.sub_zero, Nat.not_lt_zero, Nat.zero_sub, Nat.sub_self, rn_I, rn_B]
  simp only [← h7, ← e6]
  refine ints_lend 2 3 10 [7] s7 (by decide) rfl rfl rfl rfl (by omega) (by simp) (by simp [isD, hpr]) (by decide) ?_
  simp only [↓wt, wu, wk0, wk1, wk2, wk3, Nat.reduceAdd, Nat.reduceEqDiff, Nat.reduceLeDiff, Nat.reduceLT, Nat.reduceMul, Int.reduceLE, Int.reduceLT, Int.reduceEq, Int.reduceNe, wk4, laidS, keepS, FillN, wr, wr1, stN, RdB, Bs, ptr_eq, rnI, nblt, rn0, rnC, rnE, rnR, rnB, putAll, Nat.reduceSub, Nat.sub_zero, Nat.not_lt_zero, Nat.zero_sub, Nat.sub_self, rn_I, rn_B]
  simp only [← h8, ← e7]
  refine wide_lend 2 3 11 [8] s8 (by decide) rfl rfl rfl rfl (by omega) (by simp) (by simp [isD, hpr]) (by decide) ?_
  simp only [↓wt, wu, wk0, wk1, wk2, wk3, Nat.reduceAdd, Nat.reduceEqDiff, Nat.reduceLeDiff, Nat.reduceLT, Nat.reduceMul, Int.reduceLE, Int.reduceLT, Int.reduceEq, Int.reduceNe, wk4, laidS, keepS, FillN, wr, wr1, stN, RdB, Bs, ptr_eq, rnI, nblt, rn0, rnC, rnE, rnR, rnB, putAll, Nat.reduceSub, Nat.sub_zero, Nat.not_lt_zero, Nat.zero_sub, Nat.sub_self, rn_I, rn_B]
  simp only [← h9, ← e8]
  refine ints_lend 2 3 12 [9] s9 (by decide) rfl rfl rfl rfl (by omega) (by simp) (by simp [isD, hpr]) (by decide) ?_
  simp only [↓wt, wu, wk0, wk1, wk2, wk3, Nat.reduceAdd, Nat.reduceEqDiff, Nat.reduceLeDiff, Nat.reduceLT, Nat.reduceMul, Int.reduceLE, Int.reduceLT, Int.reduceEq, Int.reduceNe, wk4, laidS, keepS, FillN, wr, wr1, stN, RdB, Bs, ptr_eq, rnI, nblt, rn0, rnC, rnE, rnR, rnB, putAll, Nat.reduceSub, Nat.sub_zero, Nat.not_lt_zero, Nat.zero_sub, Nat.sub_self, rn_I, rn_B]
  simp only [← h10, ← e9]
  refine adopt_cell 3 35 11 _ 10 32 2 rfl rfl ?_
  refine loop_ruleG tabOk [2, 4, 6, 7, 58] (fun k : Nat => [(59, .c (.int .i64 k))]) (fun k => ⟨[(0, ⟨23, 6, [ConfA c]⟩), (1, ⟨35, 11, [.g [.c (.int .i64 0), .c (.int .i64 0), .c (.int .i64 0), .c (.slice none 0 0), .c (.int .i64 0), .c (.int .i64 0), .c (.int .i64 0), .c (.int .i64 0), .c (.int .i64 0), .c (.int .i64 0), .c (.slice none 0 0)]]⟩),
    (2, RdB (stN (2 * k) s10)), (3, ⟨35, 11, [.g [.c (.int .i64 v0), .c (.int .i64 v1), .c (.int .i64 v2), .l 3 (rw.map RowV), .c (.int .i64 v4), .c (.int .i64 v5), .c (.int .i64 v6), .c (.int .i64 v7), .c (.int .i64 v8), .c (.int .i64 v9), .s 13 0 k]]⟩), (13, ⟨32, 2, (looksT k s10).map LookV⟩)], 14⟩)
    (fun k => k ≤ rw.length) (fun k => rw.length - k) 0 (by omega) (fun _ => Nat.le_refl _) ?_ ?_
  · simp only [↓wt, wu, wk0, wk1, wk2, wk3, wkf, Nat.reduceAdd, Nat.reduceEqDiff, Nat.reduceLeDiff, Nat.reduceLT, Nat.reduceMul, Int.reduceLE, Int.reduceLT, Int.reduceEq, Int.reduceNe, wk4, laidS, keepS, ConfA, RdB, Bs, under_RdL, underL_R, underL_K]
    exact ⟨rfl, rfl⟩
  · intro k hk
    obtain ⟨x0, hx0⟩ : ∃ s : RdT, s = stN (2 * k) s10 := ⟨_, rfl⟩
    obtain ⟨x1, hx1⟩ : ∃ s : RdT, s = rdS x0 := ⟨_, rfl⟩
    obtain ⟨x2, hx2⟩ : ∃ s : RdT, s = rdS x1 := ⟨_, rfl⟩
    have m0 : x0.1.length ≤ b.length := by rw [hx0]; exact Nat.le_trans (stN_len _ _) l10
    have m1 : x1.1.length ≤ b.length := by rw [hx1]; exact Nat.le_trans (rdS_len _) m0
    have hxk : stN (2 * (k + 1)) s10 = x2 := by rw [show 2 * (k + 1) = 2 * k + 1 + 1 by omega, stN_succ, stN_succ, ← hx0, ← hx1, ← hx2]
    have hlk := looksT_succ k s10
    rw [← hx0, ← hx1] at hlk
    obtain ⟨w0, hw0⟩ : ∃ v : Int, v = rdV x0 := ⟨_, rfl⟩
    obtain ⟨w1, hw1⟩ : ∃ v : Int, v = rdV x1 := ⟨_, rfl⟩
    rw [← hw0, ← hw1] at hlk
    have e3 := wi_succ (k := k) (by omega)
    simp only [← hx0]
    simp only [↓wt, wu, wk0, wk1, wk2, wk3, Nat.reduceAdd, Nat.reduceEqDiff, Nat.reduceLeDiff, Nat.reduceLT, Nat.reduceMul, Int.reduceLE, Int.reduceLT, Int.reduceEq, Int.reduceNe, wk4, laidS, keepS]
    repeat' (first | (refine r_casesD (fun hp hb => ?_) (fun hp hb => ?_) <;> simp only [↓wt, wu, wk0, wk1, wk2, wk3, Nat.reduceAdd, Nat.reduceEqDiff, Nat.reduceLeDiff, Nat.reduceLT, Nat.reduceMul, Int.reduceLE, Int.reduceLT, Int.reduceEq, Int.reduceNe, wk4, laidS, keepS, hb]) | (refine r_casesN (fun hp hb => ?_) (fun hp hb => ?_) <;> simp only [↓wt, wu, wk0, wk1, wk2, wk3, Nat.reduceAdd, Nat.reduceEqDiff, Nat.reduceLeDiff, Nat.reduceLT, Nat.reduceMul, Int.reduceLE, Int.reduceLT, Int.reduceEq, Int.reduceNe, wk4, laidS, keepS, hb]) | (refine r_casesM (fun hp hb => ?_) (fun hp hb => ?_) <;> simp only [↓wt, wu, wk0, wk1, wk2, wk3, Nat.reduceAdd, Nat.reduceEqDiff, Nat.reduceLeDiff, Nat.reduceLT, Nat.reduceMul, Int.reduceLE, Int.reduceLT, Int.reduceEq, Int.reduceNe, wk4, laidS, keepS, hb]) | (refine r_casesB (fun hp hb => ?_) (fun hp hb => ?_) <;> simp only [↓wt, wu, wk0, wk1, wk2, wk3, Nat.reduceAdd, Nat.reduceEqDiff, Nat.reduceLeDiff, Nat.reduceLT, Nat.reduceMul, Int.reduceLE, Int.reduceLT, Int.reduceEq, Int.reduceNe, wk4, laidS, keepS, hb]) | (refine r_gcasesD (fun hp hb => ?_) (fun hp hb => ?_) <;> simp only [↓wt, wu, wk0, wk1, wk2, wk3, Nat.reduceAdd, Nat.reduceEqDiff, Nat.reduceLeDiff, Nat.reduceLT, Nat.reduceMul, Int.reduceLE, Int.reduceLT, Int.reduceEq, Int.reduceNe, wk4, laidS, keepS, hb]) | (refine r_gcasesN (fun hp hb => ?_) (fun hp hb => ?_) <;> simp only [↓wt, wu, wk0, wk1, wk2, wk3, Nat.reduceAdd, Nat.reduceEqDiff, Nat.reduceLeDiff, Nat.reduceLT, Nat.reduceMul, Int.reduceLE, Int.reduceLT, Int.reduceEq, Int.reduceNe, wk4, laidS, keepS, hb]) | (refine r_gcasesM (fun hp hb => ?_) (fun hp hb => ?_) <;> simp only [↓wt, wu, wk0, wk1, wk2, wk3, Nat.reduceAdd, Nat.reduceEqDiff, Nat.reduceLeDiff, Nat.reduceLT, Nat.reduceMul, Int.reduceLE, Int.reduceLT, Int.reduceEq, Int.reduceNe, wk4, laidS, keepS, hb]) | (refine r_gcasesB (fun hp hb => ?_) (fun hp hb => ?_) <;> simp only [↓wt, wu, wk0, wk1, wk2, wk3, Nat.reduceAdd, Nat.reduceEqDiff, Nat.reduceLeDiff, Nat.reduceLT, Nat.reduceMul, Int.reduceLE, Int.reduceLT, Int.reduceEq, Int.reduceNe, wk4, laidS, keepS, hb]) | ((with_reducible refine And.intro ?_ ?_); omega) | fail)
    · have hkl : k < rw.length := by omega
      simp only [↓wt, wu, wk0, wk1, wk2, wk3, Nat.reduceAdd, Nat.reduceEqDiff, Nat.reduceLeDiff, Nat.reduceLT, Nat.reduceMul, Int.reduceLE, Int.reduceLT, Int.reduceEq, Int.reduceNe, wk4, laidS, keepS, RdB, Bs, ConfA]
      refine wide_lend 2 14 15 [0] x0 (by decide) rfl rfl rfl rfl (by omega) (by simp) (by simp [isD]) (by decide) ?_
      simp only [↓wt, wu, wk0, wk1, wk2, wk3, Nat.reduceAdd, Nat.reduceEqDiff, Nat.reduceLeDiff, Nat.reduceLT, Nat.reduceMul, Int.reduceLE, Int.reduceLT, Int.reduceEq, Int.reduceNe, wk4, laidS, keepS, FillN, wr, wr1, stN, RdB, Bs, ptr_eq, rnI, nblt, rn0, rnC, rnE, rnR, rnB, putAll, Nat.reduceSub, Nat.sub_zero, Nat.not_lt_zero, Nat.zero_sub, Nat.sub_self, rn_I, rn_B]
      simp only [← hx1, ← hw0]
      refine ints_lend 2 14 16 [1] x1 (by decide) rfl rfl rfl rfl (by omega) (by simp) (by simp [isD]) (by decide) ?_
      simp only [↓wt, wu, wk0, wk1, wk2, wk3, Nat.reduceAdd, Nat.reduceEqDiff, Nat.reduceLeDiff, Nat.reduceLT, Nat.reduceMul, Int.reduceLE, Int.reduceLT, Int.reduceEq, Int.reduceNe, wk4, laidS, keepS, FillN, wr, wr1, stN, RdB, Bs, ptr_eq, Cell, looksT_len, rnI, nblt, rn0, rnC, rnE, rnR, rnB, putAll, Nat.reduceSub, Nat.sub_zero, Nat.not_lt_zero, Nat.zero_sub, Nat.sub_self, rn_I, rn_B]
      simp only [← hx2, ← hw1]
      refine ⟨by omega, k + 1, by omega, by omega, ?_⟩
      simp only [↓wt, wu, wk0, wk1, wk2, wk3, wkf, Nat.reduceAdd, Nat.reduceEqDiff, Nat.reduceLeDiff, Nat.reduceLT, Nat.reduceMul, Int.reduceLE, Int.reduceLT, Int.reduceEq, Int.reduceNe, wk4, laidS, keepS, e3, hxk, hlk, ConfA, RdB, Bs, under_RdL, underL_R, underL_K, List.map_append, LookV_eq]
      have hul := underL_K (k := 14) (l := looksT k s10 ++ [(w0, w1)])
      rw [List.map_append] at hul
      exact hul.mpr trivial
    · have hkl : k = rw.length := by omega
      have hzz : stN (2 * rw.length) (stN 6 s4) = x0 := by rw [hx0, hkl, show stN 6 s4 = s10 by rw [h10, h9, h8, h7, h6, h5]; rfl]
      rw [hzz] at hmt
      have hm5 : mailX c b = ⟨v0, v1, v2, rw, v4, v5, v6, v7, v8, v9, looksT k s10⟩ := by
        rw [hmx, hkl, h10, h9, h8, h7, h6, h5, e9, h9, h8, h7, h6, h5, e8, h8, h7, h6, h5, e7, h7, h6, h5, e6, h6, h5, e5, h5, e4]
        rfl
      cases hb2 : x0.2
      · by_cases hb1 : x0.1.length = 0
        · have hb3 : decide ((x0.1.length : Int) > 0) = false := decide_eq_false (by omega)
          simp only [↓wt, wu, wk0, wk1, wk2, wk3, Nat.reduceAdd, Nat.reduceEqDiff, Nat.reduceLeDiff, Nat.reduceLT, Nat.reduceMul, Int.reduceLE, Int.reduceLT, Int.reduceEq, Int.reduceNe, wk4, laidS, keepS, RdB, Bs, ConfA, hb2, hb3]
          refine icall_keep [13] (maym_call c ⟨v0, v1, v2, rw, v4, v5, v6, v7, v8, v9, looksT k s10⟩ hrl.2 (by show (looksT k s10).length < _; rw [looksT_len]; omega)) ⟨arg_conf', arg_gL ⟨argC_c, argC_c, argC_c, argC_l (pureR _), argC_c, argC_c, argC_c, argC_c, argC_c, argC_c, argC_own (by simp) rfl (by rw [List.length_map, looksT_len]) (pureK _), trivial⟩, trivial⟩ (.c _) ?_
          rw [← hm5]
          simp only [↓wt, wu, wk0, wk1, wk2, wk3, Nat.reduceAdd, Nat.reduceEqDiff, Nat.reduceLeDiff, Nat.reduceLT, Nat.reduceMul, Int.reduceLE, Int.reduceLT, Int.reduceEq, Int.reduceNe, wk4, laidS, keepS, Cell]
          repeat' (first | (refine r_casesD (fun hp hb => ?_) (fun hp hb => ?_) <;> simp only [↓wt, wu, wk0, wk1, wk2, wk3, Nat.reduceAdd, Nat.reduceEqDiff, Nat.reduceLeDiff, Nat.reduceLT, Nat.reduceMul, Int.reduceLE, Int.reduceLT, Int.reduceEq, Int.reduceNe, wk4, laidS, keepS, Cell, Try.results7, hb]) | (refine r_casesN (fun hp hb => ?_) (fun hp hb => ?_) <;> simp only [↓wt, wu, wk0, wk1, wk2, wk3, Nat.reduceAdd, Nat.reduceEqDiff, Nat.reduceLeDiff, Nat.reduceLT, Nat.reduceMul, Int.reduceLE, Int.reduceLT, Int.reduceEq, Int.reduceNe, wk4, laidS, keepS, Cell, Try.results7, hb]) | (refine r_casesM (fun hp hb => ?_) (fun hp hb => ?_) <;> simp only [↓wt, wu, wk0, wk1, wk2, wk3, Nat.reduceAdd, Nat.reduceEqDiff, Nat.reduceLeDiff, Nat.reduceLT, Nat.reduceMul, Int.reduceLE, Int.reduceLT, Int.reduceEq, Int.reduceNe, wk4, laidS, keepS, Cell, Try.results7, hb]) | (refine r_casesB (fun hp hb => ?_) (fun hp hb => ?_) <;> simp only [↓wt, wu, wk0, wk1, wk2, wk3, Nat.reduceAdd, Nat.reduceEqDiff, Nat.reduceLeDiff, Nat.reduceLT, Nat.reduceMul, Int.reduceLE, Int.reduceLT, Int.reduceEq, Int.reduceNe, wk4, laidS, keepS, Cell, Try.results7, hb]) | (refine r_gcasesD (fun hp hb => ?_) (fun hp hb => ?_) <;> simp only [↓wt, wu, wk0, wk1, wk2, wk3, Nat.reduceAdd, Nat.reduceEqDiff, Nat.reduceLeDiff, Nat.reduceLT, Nat.reduceMul, Int.reduceLE, Int.reduceLT, Int.reduceEq, Int.reduceNe, wk4, laidS, keepS, Cell, Try.results7, hb]) | (refine r_gcasesN (fun hp hb => ?_) (fun hp hb => ?_) <;> simp only [↓wt, wu, wk0, wk1, wk2, wk3, Nat.reduceAdd, Nat.reduceEqDiff, Nat.reduceLeDiff, Nat.reduceLT, Nat.reduceMul, Int.reduceLE, Int.reduceLT, Int.reduceEq, Int.reduceNe, wk4, laidS, keepS, Cell, Try.results7, hb]) | (refine r_gcasesM (fun hp hb => ?_) (fun hp hb => ?_) <;> simp only [↓wt, wu, wk0, wk1, wk2, wk3, Nat.reduceAdd, Nat.reduceEqDiff, Nat.reduceLeDiff, Nat.reduceLT, Nat.reduceMul, Int.reduceLE, Int.reduceLT, Int.reduceEq, Int.reduceNe, wk4, laidS, keepS, Cell, Try.results7, hb]) | (refine r_gcasesB (fun hp hb => ?_) (fun hp hb => ?_) <;> simp only [↓wt, wu, wk0, wk1, wk2, wk3, Nat.reduceAdd, Nat.reduceEqDiff, Nat.reduceLeDiff, Nat.reduceLT, Nat.reduceMul, Int.reduceLE, Int.reduceLT, Int.reduceEq, Int.reduceNe, wk4, laidS, keepS, Cell, Try.results7, hb]) | ((with_reducible refine And.intro ?_ ?_); omega) | fail)
          · rw [if_pos ⟨hb2, List.eq_nil_of_length_eq_zero hb1, hp⟩, hm5] at hmt
            exact exp_mail hmt (looksT_len k s10).symm rfl
          · rw [if_neg fun h => hp h.2.2] at hmt
            exact exp_m00 hmt
        · have hb3 : decide ((x0.1.length : Int) > 0) = true := decide_eq_true (by omega)
          rw [if_neg fun h => hb1 (by rw [h.2.1]; rfl)] at hmt
          simp only [↓wt, wu, wk0, wk1, wk2, wk3, Nat.reduceAdd, Nat.reduceEqDiff, Nat.reduceLeDiff, Nat.reduceLT, Nat.reduceMul, Int.reduceLE, Int.reduceLT, Int.reduceEq, Int.reduceNe, wk4, laidS, keepS, RdB, Bs, ConfA, hb2, hb3, Cell, Try.results7]
          exact exp_m00 hmt
      · rw [if_neg fun h => by rw [hb2] at h; cases h.1] at hmt
        simp only [↓wt, wu, wk0, wk1, wk2, wk3, Nat.reduceAdd, Nat.reduceEqDiff, Nat.reduceLeDiff, Nat.reduceLT, Nat.reduceMul, Int.reduceLE, Int.reduceLT, Int.reduceEq, Int.reduceNe, wk4, laidS, keepS, RdB, Bs, ConfA, hb2, Cell, Try.results7]
        exact exp_m00 hmt
end Go.Ab
