/- Audits: may it be one: the document's. -/
import Derived.Test.YtkikaagieknpdaaGreatAd1
import Derived.Test.YtkikaagieknpdaaGreatTBk40
set_option linter.unusedSimpArgs false
set_option linter.unusedVariables false
set_option linter.constructorNameAsVariable false
set_option maxRecDepth 100000
open Nat (reduceAdd reduceMul reduceEqDiff reduceLeDiff)
open Int (reduceLE reduceLT reduceEq reduceNe)
namespace Go.Ab
open Go Go.Proofs Go.RowKit
theorem amts_of {l : List Int} (h : ∀ k, k < l.length → 0 ≤ l.getD k 0 ∧ l.getD k 0 ≤ 1099511627776) : Amts l := fun v hv => by
 obtain ⟨k, hk, rfl⟩ := List.mem_iff_getElem.1 hv
 have := h k hk
 rwa [List.getD_eq_getElem?_getD, List.getElem?_eq_getElem hk] at this
set_option maxHeartbeats 4000000 in
theorem rmaya_call (c : Conf) (who : Int) (a : AudD) (hl : LenA a) : PCall Tryz.prog 55 [ConfA c, .c (.int .i64 who), AudV a] (.c (.bool (decide (MayA c who a)))) := by
 refine pcall_body tabOk Tryz.func55 rfl rfl (by rw [Tryz.ntmps55]; simp) ?_
 simp only [Tryz.ntmps55, ConfA, AudV]
 simp only [↓wt, wz, reduceAdd, reduceMul, reduceEqDiff, reduceLeDiff, Nat.reduceLT, reduceLE, reduceLT, reduceEq, reduceNe]
 refine icall_drop [] (rrtmay_call c) ⟨arg_conf', trivial⟩ (.c _) ?_
 by_cases hth : ThereC c who
 rotate_left
 · have hn : ¬ MayA c who a := fun h => hth h.1
   simp only [↓wt, wz, reduceAdd, reduceMul, reduceEqDiff, reduceLeDiff, Nat.reduceLT, reduceLE, reduceLT, reduceEq, reduceNe]
   by_cases hmc : MayC c
   · have f0 : decide (MayC c) = true := decide_eq_true hmc
     by_cases hw : who < 0
     · have f1 : decide (who < 0) = true := decide_eq_true hw
       simp only [↓wt, wz, reduceAdd, reduceMul, reduceEqDiff, reduceLeDiff, Nat.reduceLT, reduceLE, reduceLT, reduceEq, reduceNe, f0, f1, Tryz.results55]
       exact exp_bF hn
     · have f1 : decide (who < 0) = false := decide_eq_false hw
       have f2 : decide (who ≥ c.n) = true := decide_eq_true (by
        refine Classical.byContradiction fun h => hth ⟨hmc, ?_⟩
        unfold There; omega)
       simp only [↓wt, wz, reduceAdd, reduceMul, reduceEqDiff, reduceLeDiff, Nat.reduceLT, reduceLE, reduceLT, reduceEq, reduceNe, f0, f1, f2, Tryz.results55]
       exact exp_bF hn
   · have f0 : decide (MayC c) = false := decide_eq_false hmc
     simp only [↓wt, wz, reduceAdd, reduceMul, reduceEqDiff, reduceLeDiff, Nat.reduceLT, reduceLE, reduceLT, reduceEq, reduceNe, f0, Tryz.results55]
     exact exp_bF hn
 have hmc : MayC c := hth.1
 have hw : 0 ≤ who ∧ who < c.n := hth.2
 have f0 : decide (MayC c) = true := decide_eq_true hmc
 have f1 : decide (who < 0) = false := decide_eq_false (by omega)
 have f2 : decide (who ≥ c.n) = false := decide_eq_false (by omega)
 simp only [↓wt, wz, reduceAdd, reduceMul, reduceEqDiff, reduceLeDiff, Nat.reduceLT, reduceLE, reduceLT, reduceEq, reduceNe, f0, f1, f2]
 refine icall_drop [] (rnone_call a) ⟨arg_aud, trivial⟩ (.c _) ?_
 simp only [↓wt, wz, reduceAdd, reduceMul, reduceEqDiff, reduceLeDiff, Nat.reduceLT, reduceLE, reduceLT, reduceEq, reduceNe]
 refine r_casesD (fun hno hb => ?_) (fun hno hb => ?_) <;> simp only [↓wt, wz, reduceAdd, reduceMul, reduceEqDiff, reduceLeDiff, Nat.reduceLT, reduceLE, reduceLT, reduceEq, reduceNe, hb]
 · simp only [↓wt, wz, reduceAdd, reduceMul, reduceEqDiff, reduceLeDiff, Nat.reduceLT, reduceLE, reduceLT, reduceEq, reduceNe, Tryz.results55]
   exact exp_bT (p := MayA c who a) ⟨hth, .inl hno⟩
 have hmn : MayA c who a ↔ RunA c who a := ⟨fun h => h.2.resolve_left hno, fun h => ⟨hth, .inr h⟩⟩
 have h16 : c.n ≤ 16 := by have := hmc; unfold MayC at this; omega
 by_cases hy1 : a.y ≤ 0
 · have g1 : decide (a.y ≤ 0) = true := decide_eq_true hy1
   simp only [↓wt, wz, reduceAdd, reduceMul, reduceEqDiff, reduceLeDiff, Nat.reduceLT, reduceLE, reduceLT, reduceEq, reduceNe, g1, Tryz.results55]
   exact exp_bF (p := MayA c who a) fun h => by have := (hmn.1 h).1.1; omega
 have g1 : decide (a.y ≤ 0) = false := decide_eq_false hy1
 simp only [↓wt, wz, reduceAdd, reduceMul, reduceEqDiff, reduceLeDiff, Nat.reduceLT, reduceLE, reduceLT, reduceEq, reduceNe, g1]
 by_cases hy2 : a.y > 1125899906842624
 · have g2 : decide (a.y > 1125899906842624) = true := decide_eq_true hy2
   simp only [↓wt, wz, reduceAdd, reduceMul, reduceEqDiff, reduceLeDiff, Nat.reduceLT, reduceLE, reduceLT, reduceEq, reduceNe, g2, Tryz.results55]
   exact exp_bF (p := MayA c who a) fun h => by have := (hmn.1 h).1.2.1; omega
 have g2 : decide (a.y > 1125899906842624) = false := decide_eq_false hy2
 simp only [↓wt, wz, reduceAdd, reduceMul, reduceEqDiff, reduceLeDiff, Nat.reduceLT, reduceLE, reduceLT, reduceEq, reduceNe, g2]
 by_cases hp : a.p = 1
 · have g3 : decide (a.p = 1) = true := decide_eq_true hp
   simp only [↓wt, wz, reduceAdd, reduceMul, reduceEqDiff, reduceLeDiff, Nat.reduceLT, reduceLE, reduceLT, reduceEq, reduceNe, g3]
   by_cases l1 : (a.told.length : Int) = c.n
   rotate_left
   · have k1 : decide ((a.told.length : Int) = c.n) = false := decide_eq_false l1
     simp only [↓wt, wz, reduceAdd, reduceMul, reduceEqDiff, reduceLeDiff, Nat.reduceLT, reduceLE, reduceLT, reduceEq, reduceNe, k1, Tryz.results55]
     exact exp_bF (p := MayA c who a) fun h => l1 (hmn.1 h).2.1.1
   have k1 : decide ((a.told.length : Int) = c.n) = true := decide_eq_true l1
   simp only [↓wt, wz, reduceAdd, reduceMul, reduceEqDiff, reduceLeDiff, Nat.reduceLT, reduceLE, reduceLT, reduceEq, reduceNe, k1]
   by_cases l2 : (a.use.length : Int) = c.n
   rotate_left
   · have k2 : decide ((a.use.length : Int) = c.n) = false := decide_eq_false l2
     simp only [↓wt, wz, reduceAdd, reduceMul, reduceEqDiff, reduceLeDiff, Nat.reduceLT, reduceLE, reduceLT, reduceEq, reduceNe, k2, Tryz.results55]
     exact exp_bF (p := MayA c who a) fun h => l2 (hmn.1 h).2.1.2.1
   have k2 : decide ((a.use.length : Int) = c.n) = true := decide_eq_true l2
   simp only [↓wt, wz, reduceAdd, reduceMul, reduceEqDiff, reduceLeDiff, Nat.reduceLT, reduceLE, reduceLT, reduceEq, reduceNe, k2]
   by_cases l3 : (a.inc.length : Int) = c.n
   rotate_left
   · have k3 : decide ((a.inc.length : Int) = c.n) = false := decide_eq_false l3
     simp only [↓wt, wz, reduceAdd, reduceMul, reduceEqDiff, reduceLeDiff, Nat.reduceLT, reduceLE, reduceLT, reduceEq, reduceNe, k3, Tryz.results55]
     exact exp_bF (p := MayA c who a) fun h => l3 (hmn.1 h).2.1.2.2
   have k3 : decide ((a.inc.length : Int) = c.n) = true := decide_eq_true l3
   simp only [↓wt, wz, reduceAdd, reduceMul, reduceEqDiff, reduceLeDiff, Nat.reduceLT, reduceLE, reduceLT, reduceEq, reduceNe, k3, elem_O]
   repeat (refine And.intro (by omega) ?_)
   cases htw : a.told.getD who.toNat false with
   | true =>
    simp only [↓wt, wz, reduceAdd, reduceMul, reduceEqDiff, reduceLeDiff, Nat.reduceLT, reduceLE, reduceLT, reduceEq, reduceNe, htw, Tryz.results55]
    exact exp_bF (p := MayA c who a) fun h => by have := (hmn.1 h).2.2.1; rw [htw] at this; cases this
   | false =>
   have hR : Amts a.use → Amts a.inc → RunA c who a := fun h1 h2 => ⟨⟨by omega, by omega, by omega, by omega⟩, ⟨l1, l2, l3⟩, htw, h1, h2⟩
   simp only [↓wt, wz, reduceAdd, reduceMul, reduceEqDiff, reduceLeDiff, Nat.reduceLT, reduceLE, reduceLT, reduceEq, reduceNe, htw]
   refine freeze_rule 0 [3, 5, 7] (by simp only [↓wt, wz, reduceAdd, reduceMul, reduceEqDiff, reduceLeDiff, Nat.reduceLT, reduceLE, reduceLT, reduceEq, reduceNe, underL_O, underL_I]; (try (repeat' (first | (exact fun _ => by simp only [pureL_eq, underL_cons, underL_nil, AV.cells, under_l, under_c, under_g, under_e, under_f, underL_B, underL_I, underL_Bs, under_Bs, List.mem_cons, List.not_mem_nil, or_false, forall_eq_or_imp, forall_eq, and_self, and_true, true_and, underL_O, underL_I]) | ((with_reducible refine And.intro ?_ ?_)) | (intro _) | omega | (simp only [pureL_eq, underL_cons, underL_nil, AV.cells, under_l, under_c, under_g, under_e, under_f, underL_B, underL_I, underL_Bs, under_Bs, List.mem_cons, List.not_mem_nil, or_false, forall_eq_or_imp, forall_eq, and_self, and_true, true_and, underL_O, underL_I])))); done) (by simp only [↓wt, wz, reduceAdd, reduceMul, reduceEqDiff, reduceLeDiff, Nat.reduceLT, reduceLE, reduceLT, reduceEq, reduceNe, underL_O, underL_I]; (try (repeat' (first | (exact fun _ => by simp only [pureL_eq, underL_cons, underL_nil, AV.cells, under_l, under_c, under_g, under_e, under_f, underL_B, underL_I, underL_Bs, under_Bs, List.mem_cons, List.not_mem_nil, or_false, forall_eq_or_imp, forall_eq, and_self, and_true, true_and, underL_O, underL_I]) | ((with_reducible refine And.intro ?_ ?_)) | (intro _) | omega | (simp only [pureL_eq, underL_cons, underL_nil, AV.cells, under_l, under_c, under_g, under_e, under_f, underL_B, underL_I, underL_Bs, under_Bs, List.mem_cons, List.not_mem_nil, or_false, forall_eq_or_imp, forall_eq, and_self, and_true, true_and, underL_O, underL_I])))); done) ?_; simp only [↓wt, wz, reduceAdd, reduceMul, reduceEqDiff, reduceLeDiff, Nat.reduceLT, reduceLE, reduceLT, reduceEq, reduceNe, underL_O, underL_I]; refine freeze_rule 1 [3, 5, 7] (by simp only [↓wt, wz, reduceAdd, reduceMul, reduceEqDiff, reduceLeDiff, Nat.reduceLT, reduceLE, reduceLT, reduceEq, reduceNe, underL_O, underL_I]; (try (repeat' (first | (exact fun _ => by simp only [pureL_eq, underL_cons, underL_nil, AV.cells, under_l, under_c, under_g, under_e, under_f, underL_B, underL_I, underL_Bs, under_Bs, List.mem_cons, List.not_mem_nil, or_false, forall_eq_or_imp, forall_eq, and_self, and_true, true_and, underL_O, underL_I]) | ((with_reducible refine And.intro ?_ ?_)) | (intro _) | omega | (simp only [pureL_eq, underL_cons, underL_nil, AV.cells, under_l, under_c, under_g, under_e, under_f, underL_B, underL_I, underL_Bs, under_Bs, List.mem_cons, List.not_mem_nil, or_false, forall_eq_or_imp, forall_eq, and_self, and_true, true_and, underL_O, underL_I])))); done) (by simp only [↓wt, wz, reduceAdd, reduceMul, reduceEqDiff, reduceLeDiff, Nat.reduceLT, reduceLE, reduceLT, reduceEq, reduceNe, underL_O, underL_I]; (try (repeat' (first | (exact fun _ => by simp only [pureL_eq, underL_cons, underL_nil, AV.cells, under_l, under_c, under_g, under_e, under_f, underL_B, underL_I, underL_Bs, under_Bs, List.mem_cons, List.not_mem_nil, or_false, forall_eq_or_imp, forall_eq, and_self, and_true, true_and, underL_O, underL_I]) | ((with_reducible refine And.intro ?_ ?_)) | (intro _) | omega | (simp only [pureL_eq, underL_cons, underL_nil, AV.cells, under_l, under_c, under_g, under_e, under_f, underL_B, underL_I, underL_Bs, under_Bs, List.mem_cons, List.not_mem_nil, or_false, forall_eq_or_imp, forall_eq, and_self, and_true, true_and, underL_O, underL_I])))); done) ?_; simp only [↓wt, wz, reduceAdd, reduceMul, reduceEqDiff, reduceLeDiff, Nat.reduceLT, reduceLE, reduceLT, reduceEq, reduceNe, underL_O, underL_I]
   refine loop_ruleC tabOk [3, 5] (fun k : Nat => [(7, .c (.int .i64 k))]) (fun k => k ≤ a.use.length ∧ ∀ j, j < k → (0 ≤ a.use.getD j 0 ∧ a.use.getD j 0 ≤ 1099511627776) ∧ 0 ≤ a.inc.getD j 0 ∧ a.inc.getD j 0 ≤ 1099511627776) (fun k => a.use.length - k) 0 ⟨by omega, fun j h => by omega⟩ ?_ ?_
   · simp only [↓wt, wz, wkf, reduceAdd, reduceMul, reduceEqDiff, reduceLeDiff, Nat.reduceLT, reduceLE, reduceLT, reduceEq, reduceNe, underL_O, underL_I, under_e]
     try trivial
   · rintro k ⟨hk, hG⟩
     simp only [↓wt, wz, reduceAdd, reduceMul, reduceEqDiff, reduceLeDiff, Nat.reduceLT, reduceLE, reduceLT, reduceEq, reduceNe]
     refine r_casesD (fun hp2 hb2 => ?_) (fun hp2 hb2 => ?_) <;> simp only [↓wt, wz, reduceAdd, reduceMul, reduceEqDiff, reduceLeDiff, Nat.reduceLT, reduceLE, reduceLT, reduceEq, reduceNe, hb2]
     · have e3 := wi_succ (k := k) (by omega)
       repeat (refine And.intro (by omega) ?_)
       by_cases hu : (0 ≤ a.use.getD k 0 ∧ a.use.getD k 0 ≤ 1099511627776) ∧ 0 ≤ a.inc.getD k 0 ∧ a.inc.getD k 0 ≤ 1099511627776
       · have u1 : decide (a.use.getD k 0 < 0) = false := decide_eq_false (by omega)
         have u2 : decide (a.use.getD k 0 > 1099511627776) = false := decide_eq_false (by omega)
         have u3 : decide (a.inc.getD k 0 < 0) = false := decide_eq_false (by omega)
         have u4 : decide (a.inc.getD k 0 > 1099511627776) = false := decide_eq_false (by omega)
         simp only [↓wt, wz, reduceAdd, reduceMul, reduceEqDiff, reduceLeDiff, Nat.reduceLT, reduceLE, reduceLT, reduceEq, reduceNe, u1, u2, u3, u4, e3]
         repeat (refine And.intro (by omega) ?_)
         refine ⟨k + 1, ⟨by omega, fun j hj => ?_⟩, by omega, ?_⟩
         · rcases Nat.lt_or_ge j k with h | h
           · exact hG j h
           · have : j = k := by omega
             subst this; exact hu
         · simp only [↓wt, wz, wkf, reduceAdd, reduceMul, reduceEqDiff, reduceLeDiff, Nat.reduceLT, reduceLE, reduceLT, reduceEq, reduceNe, e3, underL_O, underL_I, under_e]
           try trivial
       · have hn : ¬ MayA c who a := fun h => hu ⟨amts_getD (hmn.1 h).2.2.2.1 k, amts_getD (hmn.1 h).2.2.2.2 k⟩
         by_cases u1 : a.use.getD k 0 < 0
         · have v1 : decide (a.use.getD k 0 < 0) = true := decide_eq_true u1
           simp only [↓wt, wz, reduceAdd, reduceMul, reduceEqDiff, reduceLeDiff, Nat.reduceLT, reduceLE, reduceLT, reduceEq, reduceNe, v1, Tryz.results55]
           exact exp_bF hn
         have v1 : decide (a.use.getD k 0 < 0) = false := decide_eq_false u1
         by_cases u2 : a.use.getD k 0 > 1099511627776
         · have v2 : decide (a.use.getD k 0 > 1099511627776) = true := decide_eq_true u2
           simp only [↓wt, wz, reduceAdd, reduceMul, reduceEqDiff, reduceLeDiff, Nat.reduceLT, reduceLE, reduceLT, reduceEq, reduceNe, v1, v2, Tryz.results55]
           repeat (refine And.intro (by omega) ?_)
           exact exp_bF hn
         have v2 : decide (a.use.getD k 0 > 1099511627776) = false := decide_eq_false u2
         by_cases u3 : a.inc.getD k 0 < 0
         · have v3 : decide (a.inc.getD k 0 < 0) = true := decide_eq_true u3
           simp only [↓wt, wz, reduceAdd, reduceMul, reduceEqDiff, reduceLeDiff, Nat.reduceLT, reduceLE, reduceLT, reduceEq, reduceNe, v1, v2, v3, Tryz.results55]
           repeat (refine And.intro (by omega) ?_)
           exact exp_bF hn
         have v3 : decide (a.inc.getD k 0 < 0) = false := decide_eq_false u3
         have v4 : decide (a.inc.getD k 0 > 1099511627776) = true := decide_eq_true (Classical.byContradiction fun h => hu (by omega))
         simp only [↓wt, wz, reduceAdd, reduceMul, reduceEqDiff, reduceLeDiff, Nat.reduceLT, reduceLE, reduceLT, reduceEq, reduceNe, v1, v2, v3, v4, Tryz.results55]
         repeat (refine And.intro (by omega) ?_)
         exact exp_bF hn
     · simp only [↓wt, wz, reduceAdd, reduceMul, reduceEqDiff, reduceLeDiff, Nat.reduceLT, reduceLE, reduceLT, reduceEq, reduceNe, Tryz.results55]
       refine exp_bT (p := MayA c who a) (hmn.2 (hR (amts_of fun j hj => (hG j (by omega)).1) (amts_of fun j hj => (hG j (by omega)).2)))
 · have g3 : decide (a.p = 1) = false := decide_eq_false hp
   simp only [↓wt, wz, reduceAdd, reduceMul, reduceEqDiff, reduceLeDiff, Nat.reduceLT, reduceLE, reduceLT, reduceEq, reduceNe, g3]
   by_cases hp2 : a.p = 2
   rotate_left
   · have g4 : decide (a.p = 2) = false := decide_eq_false hp2
     simp only [↓wt, wz, reduceAdd, reduceMul, reduceEqDiff, reduceLeDiff, Nat.reduceLT, reduceLE, reduceLT, reduceEq, reduceNe, g4, Tryz.results55]
     exact exp_bF (p := MayA c who a) fun h => by have h1 := (hmn.1 h).1.2.2.1; have h2 := (hmn.1 h).1.2.2.2; omega
   have g4 : decide (a.p = 2) = true := decide_eq_true hp2
   simp only [↓wt, wz, reduceAdd, reduceMul, reduceEqDiff, reduceLeDiff, Nat.reduceLT, reduceLE, reduceLT, reduceEq, reduceNe, g4]
   by_cases l1 : (a.told.length : Int) = c.n
   rotate_left
   · have k1 : decide ((a.told.length : Int) = c.n) = false := decide_eq_false l1
     simp only [↓wt, wz, reduceAdd, reduceMul, reduceEqDiff, reduceLeDiff, Nat.reduceLT, reduceLE, reduceLT, reduceEq, reduceNe, k1, Tryz.results55]
     exact exp_bF (p := MayA c who a) fun h => l1 (hmn.1 h).2.1.1
   have k1 : decide ((a.told.length : Int) = c.n) = true := decide_eq_true l1
   simp only [↓wt, wz, reduceAdd, reduceMul, reduceEqDiff, reduceLeDiff, Nat.reduceLT, reduceLE, reduceLT, reduceEq, reduceNe, k1]
   by_cases l2 : (a.use.length : Int) = c.n
   rotate_left
   · have k2 : decide ((a.use.length : Int) = c.n) = false := decide_eq_false l2
     simp only [↓wt, wz, reduceAdd, reduceMul, reduceEqDiff, reduceLeDiff, Nat.reduceLT, reduceLE, reduceLT, reduceEq, reduceNe, k2, Tryz.results55]
     exact exp_bF (p := MayA c who a) fun h => l2 (hmn.1 h).2.1.2.1
   have k2 : decide ((a.use.length : Int) = c.n) = true := decide_eq_true l2
   simp only [↓wt, wz, reduceAdd, reduceMul, reduceEqDiff, reduceLeDiff, Nat.reduceLT, reduceLE, reduceLT, reduceEq, reduceNe, k2]
   by_cases l3 : (a.inc.length : Int) = c.n
   rotate_left
   · have k3 : decide ((a.inc.length : Int) = c.n) = false := decide_eq_false l3
     simp only [↓wt, wz, reduceAdd, reduceMul, reduceEqDiff, reduceLeDiff, Nat.reduceLT, reduceLE, reduceLT, reduceEq, reduceNe, k3, Tryz.results55]
     exact exp_bF (p := MayA c who a) fun h => l3 (hmn.1 h).2.1.2.2
   have k3 : decide ((a.inc.length : Int) = c.n) = true := decide_eq_true l3
   simp only [↓wt, wz, reduceAdd, reduceMul, reduceEqDiff, reduceLeDiff, Nat.reduceLT, reduceLE, reduceLT, reduceEq, reduceNe, k3, elem_O]
   repeat (refine And.intro (by omega) ?_)
   cases htw : a.told.getD who.toNat false with
   | true =>
    simp only [↓wt, wz, reduceAdd, reduceMul, reduceEqDiff, reduceLeDiff, Nat.reduceLT, reduceLE, reduceLT, reduceEq, reduceNe, htw, Tryz.results55]
    exact exp_bF (p := MayA c who a) fun h => by have := (hmn.1 h).2.2.1; rw [htw] at this; cases this
   | false =>
   have hR : Amts a.use → Amts a.inc → RunA c who a := fun h1 h2 => ⟨⟨by omega, by omega, by omega, by omega⟩, ⟨l1, l2, l3⟩, htw, h1, h2⟩
   simp only [↓wt, wz, reduceAdd, reduceMul, reduceEqDiff, reduceLeDiff, Nat.reduceLT, reduceLE, reduceLT, reduceEq, reduceNe, htw]
   refine freeze_rule 0 [3, 5, 7] (by simp only [↓wt, wz, reduceAdd, reduceMul, reduceEqDiff, reduceLeDiff, Nat.reduceLT, reduceLE, reduceLT, reduceEq, reduceNe, underL_O, underL_I]; (try (repeat' (first | (exact fun _ => by simp only [pureL_eq, underL_cons, underL_nil, AV.cells, under_l, under_c, under_g, under_e, under_f, underL_B, underL_I, underL_Bs, under_Bs, List.mem_cons, List.not_mem_nil, or_false, forall_eq_or_imp, forall_eq, and_self, and_true, true_and, underL_O, underL_I]) | ((with_reducible refine And.intro ?_ ?_)) | (intro _) | omega | (simp only [pureL_eq, underL_cons, underL_nil, AV.cells, under_l, under_c, under_g, under_e, under_f, underL_B, underL_I, underL_Bs, under_Bs, List.mem_cons, List.not_mem_nil, or_false, forall_eq_or_imp, forall_eq, and_self, and_true, true_and, underL_O, underL_I])))); done) (by simp only [↓wt, wz, reduceAdd, reduceMul, reduceEqDiff, reduceLeDiff, Nat.reduceLT, reduceLE, reduceLT, reduceEq, reduceNe, underL_O, underL_I]; (try (repeat' (first | (exact fun _ => by simp only [pureL_eq, underL_cons, underL_nil, AV.cells, under_l, under_c, under_g, under_e, under_f, underL_B, underL_I, underL_Bs, under_Bs, List.mem_cons, List.not_mem_nil, or_false, forall_eq_or_imp, forall_eq, and_self, and_true, true_and, underL_O, underL_I]) | ((with_reducible refine And.intro ?_ ?_)) | (intro _) | omega | (simp only [pureL_eq, underL_cons, underL_nil, AV.cells, under_l, under_c, under_g, under_e, under_f, underL_B, underL_I, underL_Bs, under_Bs, List.mem_cons, List.not_mem_nil, or_false, forall_eq_or_imp, forall_eq, and_self, and_true, true_and, underL_O, underL_I])))); done) ?_; simp only [↓wt, wz, reduceAdd, reduceMul, reduceEqDiff, reduceLeDiff, Nat.reduceLT, reduceLE, reduceLT, reduceEq, reduceNe, underL_O, underL_I]; refine freeze_rule 1 [3, 5, 7] (by simp only [↓wt, wz, reduceAdd, reduceMul, reduceEqDiff, reduceLeDiff, Nat.reduceLT, reduceLE, reduceLT, reduceEq, reduceNe, underL_O, underL_I]; (try (repeat' (first | (exact fun _ => by simp only [pureL_eq, underL_cons, underL_nil, AV.cells, under_l, under_c, under_g, under_e, under_f, underL_B, underL_I, underL_Bs, under_Bs, List.mem_cons, List.not_mem_nil, or_false, forall_eq_or_imp, forall_eq, and_self, and_true, true_and, underL_O, underL_I]) | ((with_reducible refine And.intro ?_ ?_)) | (intro _) | omega | (simp only [pureL_eq, underL_cons, underL_nil, AV.cells, under_l, under_c, under_g, under_e, under_f, underL_B, underL_I, underL_Bs, under_Bs, List.mem_cons, List.not_mem_nil, or_false, forall_eq_or_imp, forall_eq, and_self, and_true, true_and, underL_O, underL_I])))); done) (by simp only [↓wt, wz, reduceAdd, reduceMul, reduceEqDiff, reduceLeDiff, Nat.reduceLT, reduceLE, reduceLT, reduceEq, reduceNe, underL_O, underL_I]; (try (repeat' (first | (exact fun _ => by simp only [pureL_eq, underL_cons, underL_nil, AV.cells, under_l, under_c, under_g, under_e, under_f, underL_B, underL_I, underL_Bs, under_Bs, List.mem_cons, List.not_mem_nil, or_false, forall_eq_or_imp, forall_eq, and_self, and_true, true_and, underL_O, underL_I]) | ((with_reducible refine And.intro ?_ ?_)) | (intro _) | omega | (simp only [pureL_eq, underL_cons, underL_nil, AV.cells, under_l, under_c, under_g, under_e, under_f, underL_B, underL_I, underL_Bs, under_Bs, List.mem_cons, List.not_mem_nil, or_false, forall_eq_or_imp, forall_eq, and_self, and_true, true_and, underL_O, underL_I])))); done) ?_; simp only [↓wt, wz, reduceAdd, reduceMul, reduceEqDiff, reduceLeDiff, Nat.reduceLT, reduceLE, reduceLT, reduceEq, reduceNe, underL_O, underL_I]
   refine loop_ruleC tabOk [3, 5] (fun k : Nat => [(7, .c (.int .i64 k))]) (fun k => k ≤ a.use.length ∧ ∀ j, j < k → (0 ≤ a.use.getD j 0 ∧ a.use.getD j 0 ≤ 1099511627776) ∧ 0 ≤ a.inc.getD j 0 ∧ a.inc.getD j 0 ≤ 1099511627776) (fun k => a.use.length - k) 0 ⟨by omega, fun j h => by omega⟩ ?_ ?_
   · simp only [↓wt, wz, wkf, reduceAdd, reduceMul, reduceEqDiff, reduceLeDiff, Nat.reduceLT, reduceLE, reduceLT, reduceEq, reduceNe, underL_O, underL_I, under_e]
     try trivial
   · rintro k ⟨hk, hG⟩
     simp only [↓wt, wz, reduceAdd, reduceMul, reduceEqDiff, reduceLeDiff, Nat.reduceLT, reduceLE, reduceLT, reduceEq, reduceNe]
     refine r_casesD (fun hp2 hb2 => ?_) (fun hp2 hb2 => ?_) <;> simp only [↓wt, wz, reduceAdd, reduceMul, reduceEqDiff, reduceLeDiff, Nat.reduceLT, reduceLE, reduceLT, reduceEq, reduceNe, hb2]
     · have e3 := wi_succ (k := k) (by omega)
       repeat (refine And.intro (by omega) ?_)
       by_cases hu : (0 ≤ a.use.getD k 0 ∧ a.use.getD k 0 ≤ 1099511627776) ∧ 0 ≤ a.inc.getD k 0 ∧ a.inc.getD k 0 ≤ 1099511627776
       · have u1 : decide (a.use.getD k 0 < 0) = false := decide_eq_false (by omega)
         have u2 : decide (a.use.getD k 0 > 1099511627776) = false := decide_eq_false (by omega)
         have u3 : decide (a.inc.getD k 0 < 0) = false := decide_eq_false (by omega)
         have u4 : decide (a.inc.getD k 0 > 1099511627776) = false := decide_eq_false (by omega)
         simp only [↓wt, wz, reduceAdd, reduceMul, reduceEqDiff, reduceLeDiff, Nat.reduceLT, reduceLE, reduceLT, reduceEq, reduceNe, u1, u2, u3, u4, e3]
         repeat (refine And.intro (by omega) ?_)
         refine ⟨k + 1, ⟨by omega, fun j hj => ?_⟩, by omega, ?_⟩
         · rcases Nat.lt_or_ge j k with h | h
           · exact hG j h
           · have : j = k := by omega
             subst this; exact hu
         · simp only [↓wt, wz, wkf, reduceAdd, reduceMul, reduceEqDiff, reduceLeDiff, Nat.reduceLT, reduceLE, reduceLT, reduceEq, reduceNe, e3, underL_O, underL_I, under_e]
           try trivial
       · have hn : ¬ MayA c who a := fun h => hu ⟨amts_getD (hmn.1 h).2.2.2.1 k, amts_getD (hmn.1 h).2.2.2.2 k⟩
         by_cases u1 : a.use.getD k 0 < 0
         · have v1 : decide (a.use.getD k 0 < 0) = true := decide_eq_true u1
           simp only [↓wt, wz, reduceAdd, reduceMul, reduceEqDiff, reduceLeDiff, Nat.reduceLT, reduceLE, reduceLT, reduceEq, reduceNe, v1, Tryz.results55]
           exact exp_bF hn
         have v1 : decide (a.use.getD k 0 < 0) = false := decide_eq_false u1
         by_cases u2 : a.use.getD k 0 > 1099511627776
         · have v2 : decide (a.use.getD k 0 > 1099511627776) = true := decide_eq_true u2
           simp only [↓wt, wz, reduceAdd, reduceMul, reduceEqDiff, reduceLeDiff, Nat.reduceLT, reduceLE, reduceLT, reduceEq, reduceNe, v1, v2, Tryz.results55]
           repeat (refine And.intro (by omega) ?_)
           exact exp_bF hn
         have v2 : decide (a.use.getD k 0 > 1099511627776) = false := decide_eq_false u2
         by_cases u3 : a.inc.getD k 0 < 0
         · have v3 : decide (a.inc.getD k 0 < 0) = true := decide_eq_true u3
           simp only [↓wt, wz, reduceAdd, reduceMul, reduceEqDiff, reduceLeDiff, Nat.reduceLT, reduceLE, reduceLT, reduceEq, reduceNe, v1, v2, v3, Tryz.results55]
           repeat (refine And.intro (by omega) ?_)
           exact exp_bF hn
         have v3 : decide (a.inc.getD k 0 < 0) = false := decide_eq_false u3
         have v4 : decide (a.inc.getD k 0 > 1099511627776) = true := decide_eq_true (Classical.byContradiction fun h => hu (by omega))
         simp only [↓wt, wz, reduceAdd, reduceMul, reduceEqDiff, reduceLeDiff, Nat.reduceLT, reduceLE, reduceLT, reduceEq, reduceNe, v1, v2, v3, v4, Tryz.results55]
         repeat (refine And.intro (by omega) ?_)
         exact exp_bF hn
     · simp only [↓wt, wz, reduceAdd, reduceMul, reduceEqDiff, reduceLeDiff, Nat.reduceLT, reduceLE, reduceLT, reduceEq, reduceNe, Tryz.results55]
       refine exp_bT (p := MayA c who a) (hmn.2 (hR (amts_of fun j hj => (hG j (by omega)).1) (amts_of fun j hj => (hG j (by omega)).2)))
end Go.Ab
