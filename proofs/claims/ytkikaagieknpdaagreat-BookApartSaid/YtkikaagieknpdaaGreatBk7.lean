/- Books: a whole book, as it is read. -/
import Derived.Test.YtkikaagieknpdaaGreatBk6
set_option linter.unusedSimpArgs false
set_option linter.unusedVariables false
set_option linter.constructorNameAsVariable false
set_option maxRecDepth 100000
open Nat (reduceAdd reduceMul reduceEqDiff reduceLeDiff)
open Int (reduceLE reduceLT reduceEq reduceNe)
namespace Go.Ab
open Go Go.Proofs Go.RowKit
variable {pf : Value → Mem → Prop}
def BookV (b : BookD) : AV := .g [.c (.int .i64 b.ck), .l 3 (b.r.map RowV), .l 3 (b.l.map ReqA), .l 3 (b.o.map OutA), .c (.int .i64 b.k), .l 7 (b.n.map NoteV), .c (.int .i64 b.a.y), .c (.int .i64 b.a.p), .l 1 (b.a.told.map encO), .l 1 (b.a.use.map encI), .l 1 (b.a.inc.map encI), .c (.bool b.a.mv)]
theorem many_lend {f g : FuncId} {w : Int} {n : Nat} {s s' : List UInt8} {Q : Prop} {r : AV} {M : Mem} {K : AV → Mem → Prop} (h : ICallG pf Tryz.prog f [.c (.int .i64 n), .f g [.p 1 0 0 1, .e [.c (.int .i64 w)]]] (Rk3 s) (fun a M' => Q ∧ a = r ∧ M' = Rk3 s'))
 (ha : M.get 0 = some (RkB s)) (hb : M.get 1 = some RkBox) (hr : PureR r) (hI : Indep pf) (hK : Q → K r ⟨putAll (rnI [0, 1] M.k) (M.without [0, 1]).l (Rk3 s').l, M.k⟩) :
 ICallG pf Tryz.prog f [.c (.int .i64 n), .f g [.p 1 0 0 1, .e [.c (.int .i64 w)]]] M K :=
 icall_lendG [0, 1] [RkB s, RkBox] h (by decide) ⟨⟨by rw [ha, rn_Rk], hd_Rk⟩, ⟨by rw [hb]; rfl, fun x hx => by rw [List.mem_singleton.1 hx]; exact show 0 < 2 by decide⟩, trivial⟩
  ⟨.inr ⟨by unfold Weak; exact Weak1.refl _, .c _⟩, .inl ⟨rfl, fun c hc => by
   simp only [List.mem_cons, List.not_mem_nil, or_false] at hc
   rcases hc with rfl | rfl
   · exact show 1 < 2 by decide
   · exact .e _ fun i hi => by
      have : i = 0 := by simpa using hi
      subst this; exact .c _⟩, trivial⟩ (hr.2 _) ⟨hd_Rk, (fun x hx => by rw [List.mem_singleton.1 hx]; exact show 0 < 2 by decide), trivial⟩ (fun hG => by rw [hr.1]; exact hK hG) hI
theorem pureR_l {sz : Nat} {xs : List AV} (h : PureL xs) : PureR (.l sz xs) := ⟨fun _ => rfl, fun _ => .l _ _ h⟩
theorem pureR_aud {a : AudD} : PureR (AudV a) := by
 refine ⟨fun f => rfl, fun n c hc => ?_⟩
 simp only [AudV, List.mem_cons, List.not_mem_nil, or_false] at hc
 rcases hc with rfl | rfl | rfl | rfl | rfl | rfl
 · exact .c _
 · exact .c _
 · exact .l _ _ (pureO _)
 · exact .l _ _ (pureI _)
 · exact .l _ _ (pureI _)
 · exact .c _
theorem w_6X {P : Program} {tab : Tab} {k0 : Nat} {K : ASt → Prop} {dst : Option Tmp} {op : Op} {sl : Slots} {m M' : Mem} {N : Nat} {r : AV} (h1 : opX pf P tab ⟨sl, m, N⟩ (fun a M2 => a = r ∧ M2 = M') op) (h0 : OldB k0 m M') (h2 : setT sl N K dst r M') : stepW pf P tab k0 6 K dst op ⟨sl, m, N⟩ :=
 ⟨r, M', h1, h0, by rw [setT_eq]; exact h2⟩
theorem under_cells {k : Nat} {cs : List AV} (h : ∀ c ∈ cs, Under k c) : UnderL k [.g cs] := underL_mem fun x hx c hc => by
 rw [List.mem_singleton.1 hx] at hc
 exact h c hc
theorem arg_book {M : Mem} {ids : List Nat} {b : BookD} : VOkA M (BookV b) ∧ (∀ k ∈ idsA (BookV b), k ∈ ids) ∧ Weak (viewA M (BookV b)) (BookV b) ∧ Under 0 (BookV b) :=
 arg_pure ⟨argC_c, argC_l (pureR _), argC_l (pureQ _), argC_l (pureU _), argC_c, argC_l (pureN _), argC_c, argC_c, argC_l (pureO _), argC_l (pureI _), argC_l (pureI _), argC_c, trivial⟩
theorem view_book {M : Mem} {b : BookD} : ViewAs M [] (BookV b) (BookV b) := arg_book
def At4 (s : List UInt8) (B4 B5 : Blk) : Mem := ⟨[(0, RkB s), (1, RkBox), (4, B4), (5, B5)], 6⟩
def At5 (s : List UInt8) (B4 B5 : Blk) (xs : List AV) : Mem := ⟨[(0, RkB s), (1, RkBox), (4, B4), (5, B5), (6, ⟨72, 7, xs⟩)], 7⟩
set_option maxHeartbeats 4000000 in
theorem bkmanyN_at (n : Nat) (s : List UInt8) (B4 B5 : Blk) (u4 : UnderL 6 B4.xs) (u5 : UnderL 6 B5.xs) (v4 : UnderL 7 B4.xs) (v5 : UnderL 7 B5.xs) (hl : s.length ≤ 1000000000) (hn : n ≤ 1000) (hpf : manyP noteP n s = none → ∀ M, pf wrongV M) (hI : Indep pf) :
 ICallG pf Tryz.prog 67 [.c (.int .i64 n), .b 68 [.p 0 0 0 1]] (At4 s B4 B5)
  (fun a M' => manyP noteP n s = some (pv (manyP noteP n) s, ps (manyP noteP n) s) ∧ a = .l 7 ((pv (manyP noteP n) s).map NoteV) ∧ M' = At4 (ps (manyP noteP n) s) B4 B5) := by
 refine ICallG.trimV (icall_bodyP tabOk Tryz.func67 rfl rfl (by rw [Tryz.ntmps67]; simp) (aw_sound tabOk _ _ _ ?_))
 simp only [Tryz.ntmps67, At4]
 simp only [↓wt, wz, reduceAdd, reduceMul, reduceEqDiff, reduceLeDiff, Nat.reduceLT, reduceLE, reduceLT, reduceEq, reduceNe, wpn]
 refine adopt_rule 5 72 7 rfl ?_
 refine aw_sound tabOk _ _ _ ?_
 simp only [↓wt, wz, reduceAdd, reduceMul, reduceEqDiff, reduceLeDiff, Nat.reduceLT, reduceLE, reduceLT, reduceEq, reduceNe, wpn]
 refine loop_ruleM tabOk [1, 6] (fun k : Nat => [(5, .s 6 0 k), (7, .c (.int .i64 k))]) (fun k => At5 (ps (manyP noteP k) s) B4 B5 ((pv (manyP noteP k) s).map NoteV)) (fun k => k ≤ n ∧ manyP noteP k s = some (pv (manyP noteP k) s, ps (manyP noteP k) s)) (fun k => n - k) 0 ⟨Nat.zero_le _, rfl⟩ (fun _ => rfl) ?_ ?_
 · simp only [↓wt, wz, wkf, reduceAdd, reduceMul, reduceEqDiff, reduceLeDiff, Nat.reduceLT, reduceLE, reduceLT, reduceEq, reduceNe, At5]
   exact ⟨under_bn (by decide), ⟨rfl, under_Rk⟩, under_Box, v4, v5, rfl, underL_N.mpr trivial⟩
 · rintro k ⟨hk, hG⟩
   have e3 := wi_succ (k := k) (by omega)
   obtain ⟨hln, hxl⟩ := many_len note_len _ _ _ _ hG
   generalize hx : pv (manyP noteP k) s = xs at *
   generalize hs : ps (manyP noteP k) s = s1 at *
   by_cases hkn : k < n
   · have hb : decide ((k : Int) < (n : Int)) = true := decide_eq_true (by omega)
     simp only [↓wt, wz, reduceAdd, reduceMul, reduceEqDiff, reduceLeDiff, Nat.reduceLT, reduceLE, reduceLT, reduceEq, reduceNe, At5, hb, wpn]
     refine RC.lend (bknote_call s1 (by omega) (fun h => hpf (many_none hG h n hkn)) hI) 0 rfl pureAs0 pureR_note hI fun hG2 => ?_
     generalize pv noteP s1 = x at *
     generalize ps noteP s1 = s2 at *
     have hG3 := many_snoc hG hG2
     have hm : (xs ++ [x]).map NoteV = xs.map NoteV ++ [.g [.c (.int .i64 x.ck), .c (.int .i64 x.t), .c (.int .i64 x.w), .c (.int .i64 x.a), .c (.int .i64 x.k), .c (.int .i64 x.y), .c (.int .i64 x.p)]] := by simp [NoteV]
     simp only [↓wt, wz, reduceAdd, reduceMul, reduceEqDiff, reduceLeDiff, Nat.reduceLT, reduceLE, reduceLT, reduceEq, reduceNe, Cell, NoteV, e3, rnI, nblt, rn0, rnC, rnE, rnR, rnB, putAll, Nat.reduceSub, Nat.sub_zero, Nat.not_lt_zero, Nat.zero_sub, Nat.sub_self, rn_I, rn_B]
     refine ⟨hxl.symm, by omega, k + 1, ?_⟩
     rw [pv_eq hG3, ps_eq hG3]
     refine ⟨⟨by omega, hG3⟩, by omega, ?_⟩
     simp only [↓wt, wz, wkf, reduceAdd, reduceMul, reduceEqDiff, reduceLeDiff, Nat.reduceLT, reduceLE, reduceLT, reduceEq, reduceNe, hxl, hm, e3, At5]
     refine ⟨under_bn (by decide), ⟨rfl, under_Rk⟩, under_Box, v4, v5, ?_⟩
     rw [← hm]
     first | exact pureN' _ | exact ⟨rfl, pureN' _⟩
   · have hb : decide ((k : Int) < (n : Int)) = false := decide_eq_false (by omega)
     have hk2 : k = n := by omega
     subst hk2
     simp only [↓wt, wz, reduceAdd, reduceMul, reduceEqDiff, reduceLeDiff, Nat.reduceLT, reduceLE, reduceLT, reduceEq, reduceNe, At5, hb, wpn, Tryz.results67]
     refine ⟨[6], At4 s1 B4 B5, .l 7 (xs.map NoteV), Nat.le_refl _, arg_own (by simp) rfl (by simp [hxl]) (pureN _), ⟨⟨(show 0 < 6 by decide), rfl, under_Rk⟩, ⟨(show 1 < 6 by decide), rfl, under_Box⟩, ⟨(show 4 < 6 by decide), rfl, u4⟩, ⟨(show 5 < 6 by decide), rfl, u5⟩, trivial⟩, ?_⟩
     rw [hx, hs]
     exact ⟨hG, rfl, rfl⟩
set_option maxHeartbeats 8000000 in
theorem bkbook_call (c : Conf) (w : Int) (s : List UInt8) (hl : s.length ≤ 1000000000) (hpf : bookP c w s = none → ∀ M, pf wrongV M) (hI : Indep pf) :
 ICallG pf Tryz.prog 20 [.p 0 0 0 1, ConfA c, .c (.int .i64 w)] ⟨mkMem 0 [RkB s], 1⟩ (fun a M' => bookP c w s = some (pv (bookP c w) s, ps (bookP c w) s) ∧ a = BookV (pv (bookP c w) s) ∧ M' = ⟨[(0, RkB (ps (bookP c w) s))], 1⟩) := by
 refine ICallG.trimV (icall_bodyP tabOk Tryz.func20 rfl rfl (by rw [Tryz.ntmps20]; simp) (aw_sound tabOk _ _ _ ?_))
 simp only [Tryz.ntmps20, mkMem, ConfA]
 simp only [↓wt, wz, reduceAdd, reduceMul, reduceEqDiff, reduceLeDiff, Nat.reduceLT, reduceLE, reduceLT, reduceEq, reduceNe, wpn]
 refine RC.lend (bkwide_call s hl (fun h => hpf (bindP_n h)) hI) 0 rfl pureAs0 pureR_c hI fun g1 => ?_
 have l1 := rd_len g1
 generalize pv (rd BW) s = ck at *
 generalize ps (rd BW) s = s1 at *
 simp only [↓wt, wz, reduceAdd, reduceMul, reduceEqDiff, reduceLeDiff, Nat.reduceLT, reduceLE, reduceLT, reduceEq, reduceNe, wpn, Cell, RkB, Bs, rnI, nblt, rn0, rnC, rnE, rnR, rnB, putAll, Nat.reduceSub, Nat.sub_zero, Nat.not_lt_zero, Nat.zero_sub, Nat.sub_self, rn_I, rn_B]
 refine freeze_rule 2 [3, 4, 5, 6, 7] (by simp only [↓wt, wz, reduceAdd, reduceMul, reduceEqDiff, reduceLeDiff, Nat.reduceLT, reduceLE, reduceLT, reduceEq, reduceNe]; (try (repeat' (first | (exact fun _ => by simp only [pureL_eq, underL_cons, underL_nil, AV.cells, under_l, under_c, under_g, under_e, under_f, underL_B, underL_I, underL_Bs, under_Bs, List.mem_cons, List.not_mem_nil, or_false, forall_eq_or_imp, forall_eq, and_self, and_true, true_and]) | ((with_reducible refine And.intro ?_ ?_)) | (intro _) | omega | (simp only [pureL_eq, underL_cons, underL_nil, AV.cells, under_l, under_c, under_g, under_e, under_f, underL_B, underL_I, underL_Bs, under_Bs, List.mem_cons, List.not_mem_nil, or_false, forall_eq_or_imp, forall_eq, and_self, and_true, true_and])))); done) (by simp only [↓wt, wz, reduceAdd, reduceMul, reduceEqDiff, reduceLeDiff, Nat.reduceLT, reduceLE, reduceLT, reduceEq, reduceNe]; (try (repeat' (first | (exact fun _ => by simp only [pureL_eq, underL_cons, underL_nil, AV.cells, under_l, under_c, under_g, under_e, under_f, underL_B, underL_I, underL_Bs, under_Bs, List.mem_cons, List.not_mem_nil, or_false, forall_eq_or_imp, forall_eq, and_self, and_true, true_and]) | ((with_reducible refine And.intro ?_ ?_)) | (intro _) | omega | (simp only [pureL_eq, underL_cons, underL_nil, AV.cells, under_l, under_c, under_g, under_e, under_f, underL_B, underL_I, underL_Bs, under_Bs, List.mem_cons, List.not_mem_nil, or_false, forall_eq_or_imp, forall_eq, and_self, and_true, true_and])))); done) ?_; simp only [↓wt, wz, reduceAdd, reduceMul, reduceEqDiff, reduceLeDiff, Nat.reduceLT, reduceLE, reduceLT, reduceEq, reduceNe]; refine freeze_rule 3 [3, 4, 5, 6, 7] (by simp only [↓wt, wz, reduceAdd, reduceMul, reduceEqDiff, reduceLeDiff, Nat.reduceLT, reduceLE, reduceLT, reduceEq, reduceNe]; (try (repeat' (first | (exact fun _ => by simp only [pureL_eq, underL_cons, underL_nil, AV.cells, under_l, under_c, under_g, under_e, under_f, underL_B, underL_I, underL_Bs, under_Bs, List.mem_cons, List.not_mem_nil, or_false, forall_eq_or_imp, forall_eq, and_self, and_true, true_and]) | ((with_reducible refine And.intro ?_ ?_)) | (intro _) | omega | (simp only [pureL_eq, underL_cons, underL_nil, AV.cells, under_l, under_c, under_g, under_e, under_f, underL_B, underL_I, underL_Bs, under_Bs, List.mem_cons, List.not_mem_nil, or_false, forall_eq_or_imp, forall_eq, and_self, and_true, true_and])))); done) (by simp only [↓wt, wz, reduceAdd, reduceMul, reduceEqDiff, reduceLeDiff, Nat.reduceLT, reduceLE, reduceLT, reduceEq, reduceNe]; (try (repeat' (first | (exact fun _ => by simp only [pureL_eq, underL_cons, underL_nil, AV.cells, under_l, under_c, under_g, under_e, under_f, underL_B, underL_I, underL_Bs, under_Bs, List.mem_cons, List.not_mem_nil, or_false, forall_eq_or_imp, forall_eq, and_self, and_true, true_and]) | ((with_reducible refine And.intro ?_ ?_)) | (intro _) | omega | (simp only [pureL_eq, underL_cons, underL_nil, AV.cells, under_l, under_c, under_g, under_e, under_f, underL_B, underL_I, underL_Bs, under_Bs, List.mem_cons, List.not_mem_nil, or_false, forall_eq_or_imp, forall_eq, and_self, and_true, true_and])))); done) ?_; simp only [↓wt, wz, reduceAdd, reduceMul, reduceEqDiff, reduceLeDiff, Nat.reduceLT, reduceLE, reduceLT, reduceEq, reduceNe]
 refine draw_rule tabOk mixed [2, 2, 0, 0, 2, 3, 0, 0, 0, 0, 0, 0, 0] [[], [], [1], [1, 2], [1, 2, 3], [0, 1, 2, 3, 4], [0, 1, 2, 3, 4, 5], [0, 1, 2, 3, 4, 5, 6], [0, 1, 2, 3, 4, 5, 6], [0, 1, 2, 3, 4, 5, 6], [0, 1, 2, 3, 4, 5, 6, 7], [0, 1, 2, 3, 4, 5, 6, 7, 8, 10], [0, 1, 2, 3, 4, 5, 6, 7, 8, 9, 10, 11]] (by kernel_rfl) ?_
 simp only [↓wt, wz, reduceAdd, reduceMul, reduceEqDiff, reduceLeDiff, Nat.reduceLT, reduceLE, reduceLT, reduceEq, reduceNe]
 refine d_pureC (r := TakeV (takeB M63 c s1)) (fun M0 => ICall.up (icall_drop [] (ptake_call c s1 (by omega)) ⟨arg_conf', arg_l (pureB _), trivial⟩ okR_manyR ⟨rfl, rfl⟩)) ?_
 simp only [↓wt, wz, reduceAdd, reduceMul, reduceEqDiff, reduceLeDiff, Nat.reduceLT, reduceLE, reduceLT, reduceEq, reduceNe, TakeV, BooksV, Bs, wpn]
 cases ho : (takeB M63 c s1).2.2 with
 | false =>
  have hn : bookP c w s = none := by rw [bookP, bindP_s g1, bindP_n (by rw [rowsP, if_neg (by rw [ho]; decide)])]
  simp only [↓wt, wz, reduceAdd, reduceMul, reduceEqDiff, reduceLeDiff, Nat.reduceLT, reduceLE, reduceLT, reduceEq, reduceNe, ho, wpn]
  exact hpf hn _
 | true =>
  obtain ⟨rows, hrows⟩ : ∃ r, r = (takeB M63 c s1).1 := ⟨_, rfl⟩
  obtain ⟨s2, hs2⟩ : ∃ r, r = (takeB M63 c s1).2.1 := ⟨_, rfl⟩
  have g2 : rowsP c s1 = some (rows, s2) := by rw [rowsP, if_pos ho, ← hrows, ← hs2]
  obtain ⟨hR, l2⟩ : RightB c rows ∧ s2.length ≤ s1.length := by
   rcases takeB_is (Nat.le_refl M63) (by decide) c s1 with ⟨_, h1, h2⟩ | ⟨h1, _⟩
   · refine ⟨hrows ▸ h1, ?_⟩
     have := congrArg List.length h2
     rw [List.length_append, ← hs2] at this
     omega
   · rw [ho] at h1; cases h1
  obtain ⟨q, hq⟩ : ∃ q : Nat, c.q = q := ⟨c.q.toNat, by have := hR.1.2.1; omega⟩
  obtain ⟨n, hn⟩ : ∃ n : Nat, c.n = n := ⟨c.n.toNat, by have := hR.1.1; omega⟩
  have hqb : 1 ≤ q ∧ q ≤ 8 := by have := hR.1.2.1; omega
  have hnb : 1 ≤ n ∧ n ≤ 16 := by have := hR.1.1; omega
  have hqt : c.q.toNat = q := by omega
  have hnt : c.n.toNat = n := by omega
  have hm := hR.1
  simp only [↓wt, wz, reduceAdd, reduceMul, reduceEqDiff, reduceLeDiff, Nat.reduceLT, reduceLE, reduceLT, reduceEq, reduceNe, ho, wpn]
  simp only [← hrows, ← hs2]
  refine draw_ruleW tabOk mixed 2 [7, 0, 0, 0, 6, 0, 0, 1] [[], [], [], [1], [1, 3], [0, 1, 2, 3, 4], [0, 1, 2, 3, 4, 5], [0, 1, 2, 3, 4, 5, 6]] (by kernel_rfl) ?_
  simp only [↓wt, wz, reduceAdd, reduceMul, reduceEqDiff, reduceLeDiff, Nat.reduceLT, reduceLE, reduceLT, reduceEq, reduceNe, w_nil, w_op, w_opg, w_0, w_1, w_2, w_3]
  refine w_load (id := 1) (i := 0) (j := 0) (n := 1) rfl (by decide) rfl rfl rfl rfl ⟨by dsimp only; omega, by dsimp only; omega⟩ (fun K h => by simp only [elem_0]; exact h) ?_
  simp only [↓wt, wz, reduceAdd, reduceMul, reduceEqDiff, reduceLeDiff, Nat.reduceLT, reduceLE, reduceLT, reduceEq, reduceNe, w_nil, w_op, w_opg, w_0, w_1, w_2, w_3]
  refine w_6X (by simp only [↓wt, wz, reduceAdd, reduceMul, reduceEqDiff, reduceLeDiff, Nat.reduceLT, reduceLE, reduceLT, reduceEq, reduceNe, Cell]; exact ⟨rfl, rfl⟩) ?_ ?_
  · exact fun id hid _ => match id, hid with
     | 0, _ => rfl
     | 1, _ => rfl
  simp only [↓wt, wz, reduceAdd, reduceMul, reduceEqDiff, reduceLeDiff, Nat.reduceLT, reduceLE, reduceLT, reduceEq, reduceNe, Cell, w_nil, w_op, w_opg, w_0, w_1, w_2, w_3]
  refine d_heavyX (by simp only [↓wt, wz, reduceAdd, reduceMul, reduceEqDiff, reduceLeDiff, Nat.reduceLT, reduceLE, reduceLT, reduceEq, reduceNe, Cell]; (repeat (first | refine And.intro (by omega) ?_ | refine And.intro (pureB _) ?_ | refine And.intro (pureI _) ?_ | refine And.intro ⟨pureB _, pureB _⟩ ?_ | refine And.intro ⟨pureB _, pureI _⟩ ?_ | refine And.intro ⟨pureI _, pureB _⟩ ?_ | refine And.intro ⟨pureI _, pureI _⟩ ?_)); exact ⟨rfl, rfl⟩) ?_
  simp only [↓wt, wz, reduceAdd, reduceMul, reduceEqDiff, reduceLeDiff, Nat.reduceLT, reduceLE, reduceLT, reduceEq, reduceNe, Cell, hq, hn, w_nil, w_op, w_opg, w_0, w_1, w_2, w_3]
  refine RC.lend (args := [.c (.int .i64 q)]) (bknum_call q s2 (by unfold BW; omega) (by omega) (fun h => hpf (by rw [bookP, bindP_s g1, bindP_s g2, hqt, bindP_n h]))) 0 rfl pureAs1 pureR_c hI fun g3 => ?_
  have l3 := rd_len g3
  have b3 := rd_of (by unfold BW; omega) g3
  generalize pv (rd q) s2 = n1 at *
  generalize ps (rd q) s2 = s3 at *
  obtain ⟨m1, hm1⟩ : ∃ m : Nat, n1 = m := ⟨n1.toNat, by omega⟩
  have hm1t : n1.toNat = m1 := by omega
  simp only [↓wt, wz, reduceAdd, reduceMul, reduceEqDiff, reduceLeDiff, Nat.reduceLT, reduceLE, reduceLT, reduceEq, reduceNe, wpn, hm1, rnI, nblt, rn0, rnC, rnE, rnR, rnB, putAll, Nat.reduceSub, Nat.sub_zero, Nat.not_lt_zero, Nat.zero_sub, Nat.sub_self, rn_I, rn_B]
  refine many_lend (bkmanyQ_call w m1 s3 (by omega) (by omega) (fun h => hpf (by rw [bookP, bindP_s g1, bindP_s g2, hqt, bindP_s g3, hm1t, bindP_n h])) hI) rfl rfl (pureR_l (pureQ _)) hI fun g4 => ?_
  obtain ⟨l4, _⟩ := many_len (req_len (w := w)) _ _ _ _ g4
  generalize pv (manyP (reqP w) m1) s3 = line at *
  generalize ps (manyP (reqP w) m1) s3 = s4 at *
  have e5 := wi_succ (k := q) (by omega)
  simp only [↓wt, wz, reduceAdd, reduceMul, reduceEqDiff, reduceLeDiff, Nat.reduceLT, reduceLE, reduceLT, reduceEq, reduceNe, Rk3, RkBox, Cell, wpn, e5, rnI, nblt, rn0, rnC, rnE, rnR, rnB, putAll, Nat.reduceSub, Nat.sub_zero, Nat.not_lt_zero, Nat.zero_sub, Nat.sub_self, rn_I, rn_B]
  refine RC.lend (args := [.c (.int .i64 ((q + 1 : Nat) : Int))]) (bknum_call (q + 1) s4 (by unfold BW; omega) (by omega) (fun h => hpf (by rw [bookP, bindP_s g1, bindP_s g2, hqt, bindP_s g3, hm1t, bindP_s g4, bindP_n h]))) 0 rfl pureAs1 pureR_c hI fun g5 => ?_
  have l5 := rd_len g5
  have b5 := rd_of (by unfold BW; omega) g5
  generalize pv (rd (q + 1)) s4 = n2 at *
  generalize ps (rd (q + 1)) s4 = s5 at *
  obtain ⟨m2, hm2⟩ : ∃ m : Nat, n2 = m := ⟨n2.toNat, by omega⟩
  have hm2t : n2.toNat = m2 := by omega
  simp only [↓wt, wz, reduceAdd, reduceMul, reduceEqDiff, reduceLeDiff, Nat.reduceLT, reduceLE, reduceLT, reduceEq, reduceNe, wpn, hm2, rnI, nblt, rn0, rnC, rnE, rnR, rnB, putAll, Nat.reduceSub, Nat.sub_zero, Nat.not_lt_zero, Nat.zero_sub, Nat.sub_self, rn_I, rn_B]
  refine many_lend (bkmanyU_call w m2 s5 (by omega) (by omega) (fun h => hpf (by rw [bookP, bindP_s g1, bindP_s g2, hqt, bindP_s g3, hm1t, bindP_s g4, bindP_s g5, hm2t, bindP_n h])) hI) rfl rfl (pureR_l (pureU _)) hI fun g6 => ?_
  obtain ⟨l6, _⟩ := many_len (out_len (w := w)) _ _ _ _ g6
  generalize pv (manyP (outP w) m2) s5 = outs at *
  generalize ps (manyP (outP w) m2) s5 = s6 at *
  simp only [↓wt, wz, reduceAdd, reduceMul, reduceEqDiff, reduceLeDiff, Nat.reduceLT, reduceLE, reduceLT, reduceEq, reduceNe, Rk3, RkBox, Cell, wpn, rnI, nblt, rn0, rnC, rnE, rnR, rnB, putAll, Nat.reduceSub, Nat.sub_zero, Nat.not_lt_zero, Nat.zero_sub, Nat.sub_self, rn_I, rn_B]
  refine RC.lend (bksmall_call s6 (by omega) (fun h => hpf (by rw [bookP, bindP_s g1, bindP_s g2, hqt, bindP_s g3, hm1t, bindP_s g4, bindP_s g5, hm2t, bindP_s g6, bindP_n h])) hI) 0 rfl pureAs0 pureR_c hI fun g7 => ?_
  have l7 := rd_len g7
  generalize pv (rd BS) s6 = asks at *
  generalize ps (rd BS) s6 = s7 at *
  simp only [↓wt, wz, reduceAdd, reduceMul, reduceEqDiff, reduceLeDiff, Nat.reduceLT, reduceLE, reduceLT, reduceEq, reduceNe, Cell, wpn, rnI, nblt, rn0, rnC, rnE, rnR, rnB, putAll, Nat.reduceSub, Nat.sub_zero, Nat.not_lt_zero, Nat.zero_sub, Nat.sub_self, rn_I, rn_B]
  refine ICall.mono (bkmanyN_at n s7 _ _ ?_ ?_ ?_ ?_ (by omega) (by omega) (fun h => hpf (by rw [bookP, bindP_s g1, bindP_s g2, hqt, bindP_s g3, hm1t, bindP_s g4, bindP_s g5, hm2t, bindP_s g6, bindP_s g7, hnt, bindP_n h])) hI) ?_
  · exact under_cells fun c hc => by
     simp only [List.mem_cons, List.not_mem_nil, or_false] at hc
     rcases hc with rfl | rfl | rfl | rfl | rfl | rfl | rfl | rfl | rfl | rfl | rfl | rfl <;> exact .c _
  · exact under_cells fun c hc => by
     simp only [List.mem_cons, List.not_mem_nil, or_false] at hc
     rcases hc with rfl | rfl | rfl | rfl | rfl | rfl | rfl | rfl | rfl | rfl | rfl | rfl <;> first | exact .c _ | exact .l _ _ (underL_R.mpr trivial) | exact .l _ _ (pureQ' _) | exact .l _ _ (pureU' _)
  · exact under_cells fun c hc => by
     simp only [List.mem_cons, List.not_mem_nil, or_false] at hc
     rcases hc with rfl | rfl | rfl | rfl | rfl | rfl | rfl | rfl | rfl | rfl | rfl | rfl <;> exact .c _
  · exact under_cells fun c hc => by
     simp only [List.mem_cons, List.not_mem_nil, or_false] at hc
     rcases hc with rfl | rfl | rfl | rfl | rfl | rfl | rfl | rfl | rfl | rfl | rfl | rfl <;> first | exact .c _ | exact .l _ _ (underL_R.mpr trivial) | exact .l _ _ (pureQ' _) | exact .l _ _ (pureU' _)
  rintro a M' ⟨g8, rfl, rfl⟩
  obtain ⟨l8, _⟩ := many_len note_len _ _ _ _ g8
  generalize pv (manyP noteP n) s7 = notes at *
  generalize ps (manyP noteP n) s7 = s8 at *
  simp only [↓wt, wz, reduceAdd, reduceMul, reduceEqDiff, reduceLeDiff, Nat.reduceLT, reduceLE, reduceLT, reduceEq, reduceNe, At4, RkBox, Cell, wpn]
  refine RC.lend (args := [.c (.int .i64 n)]) (bkaudit_call n s8 (by omega) (by omega) (fun h => hpf (by rw [bookP, bindP_s g1, bindP_s g2, hqt, bindP_s g3, hm1t, bindP_s g4, bindP_s g5, hm2t, bindP_s g6, bindP_s g7, hnt, bindP_s g8, bindP_n h])) hI) 0 rfl pureAs1 pureR_aud hI fun g9 => ?_
  generalize pv (audP n) s8 = aud at *
  generalize ps (audP n) s8 = s9 at *
  have hG : bookP c w s = some (⟨ck, rows, line, outs, asks, notes, aud⟩, s9) := by rw [bookP, bindP_s g1, bindP_s g2, hqt, bindP_s g3, hm1t, bindP_s g4, bindP_s g5, hm2t, bindP_s g6, bindP_s g7, hnt, bindP_s g8, bindP_s g9]; rfl
  simp only [↓wt, wz, reduceAdd, reduceMul, reduceEqDiff, reduceLeDiff, Nat.reduceLT, reduceLE, reduceLT, reduceEq, reduceNe, AudV, Cell, wpn, Tryz.results20, rnI, nblt, rn0, rnC, rnE, rnR, rnB, putAll, Nat.reduceSub, Nat.sub_zero, Nat.not_lt_zero, Nat.zero_sub, Nat.sub_self, rn_I, rn_B]
  refine ⟨[], ⟨[(0, RkB s9)], 1⟩, BookV ⟨ck, rows, line, outs, asks, notes, aud⟩, Nat.le_refl _, view_book (b := ⟨ck, rows, line, outs, asks, notes, aud⟩), ⟨⟨Nat.zero_lt_one, rfl, under_Rk⟩, trivial⟩, ?_⟩
  rw [pv_eq hG, ps_eq hG]
  exact ⟨hG, rfl, rfl⟩
end Go.Ab
