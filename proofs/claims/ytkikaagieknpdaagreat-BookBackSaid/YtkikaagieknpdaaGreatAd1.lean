/- Audits: what they are; may it be one; is it none; did all tell. -/
import Derived.Test.YtkikaagieknpdaaGreatTRt15
import Derived.Test.YtkikaagieknpdaaGreatTRt2
import Derived.Test.YtkikaagieknpdaaGreatTRt12
set_option linter.unusedSimpArgs false
set_option linter.unusedVariables false
set_option linter.constructorNameAsVariable false
set_option maxRecDepth 100000
open Nat (reduceAdd reduceMul reduceEqDiff reduceLeDiff)
open Int (reduceLE reduceLT reduceEq reduceNe)
namespace Go.Ab
open Go Go.Proofs Go.RowKit
structure AudD where
 y : Int
 p : Int
 told : List Bool
 use : List Int
 inc : List Int
 mv : Bool
 deriving Inhabited, DecidableEq
def encO (b : Bool) : AV := .c (.bool b)
theorem elem_O {l : List Bool} {i : Nat} {K : AV → Prop} : Elem (l.map encO) i K = (i < l.length ∧ K (.c (.bool (l.getD i false)))) := elem_map _
theorem underL_O {k : Nat} {l : List Bool} : UnderL k (l.map encO) = True := eq_true (underL_map k (fun b x hx => by
 simp only [encO, AV.cells, List.mem_singleton] at hx
 subst hx; exact .c _) l)
theorem pureO (l : List Bool) : PureL (l.map encO) := by rw [pureL_eq, underL_O]; trivial
theorem exp_bw {M : Mem} {a b : Bool} (h : a = b) : Exp M (.c (.bool a)) (.c (.bool b)) := by subst h; exact exp_c
def AudV (a : AudD) : AV := .g [.c (.int .i64 a.y), .c (.int .i64 a.p), .l 1 (a.told.map encO), .l 1 (a.use.map encI), .l 1 (a.inc.map encI), .c (.bool a.mv)]
theorem arg_aud {M : Mem} {ids : List Nat} {a : AudD} : VOkA M (AudV a) ∧ (∀ k ∈ idsA (AudV a), k ∈ ids) ∧ Weak (viewA M (AudV a)) (AudV a) ∧ Under 0 (AudV a) :=
 arg_pure ⟨argC_c, argC_c, argC_l (pureO _), argC_I, argC_I, argC_c, trivial⟩
def LenA (a : AudD) : Prop := a.told.length ≤ 1000000000 ∧ a.use.length ≤ 1000000000 ∧ a.inc.length ≤ 1000000000
def NoneA (a : AudD) : Prop := (a.y = 0 ∧ a.p = 0) ∧ a.told.length = 0 ∧ a.use.length = 0 ∧ a.inc.length = 0 ∧ a.mv = false
instance (a : AudD) : Decidable (NoneA a) := by unfold NoneA; infer_instance
theorem none_call (a : AudD) (h : LenA a) : PCall Tryz.prog 87 [AudV a] (.c (.bool (decide (NoneA a)))) := by
 obtain ⟨h1, h2, h3⟩ := h
 have e1 : IntKind.i64.wrap ((a.told.length : Int) + a.use.length) = (a.told.length : Int) + a.use.length := wrap_i64 (by omega) (by omega)
 have e2 : IntKind.i64.wrap ((a.told.length : Int) + a.use.length + a.inc.length) = (a.told.length : Int) + a.use.length + a.inc.length := wrap_i64 (by omega) (by omega)
 refine pcall_body tabOk Tryz.func87 rfl rfl (by rw [Tryz.ntmps87]; simp) ?_
 simp only [Tryz.ntmps87, AudV]
 simp only [↓wt, wz, reduceAdd, reduceMul, reduceEqDiff, reduceLeDiff, Nat.reduceLT, reduceLE, reduceLT, reduceEq, reduceNe, look_eql, e1, e2]
 repeat' (first | ((first | refine r_casesD (fun hp hb => ?_) (fun hp hb => ?_) | refine r_casesN (fun hp hb => ?_) (fun hp hb => ?_) | refine r_casesM (fun hp hb => ?_) (fun hp hb => ?_) | refine r_casesB (fun hp hb => ?_) (fun hp hb => ?_) | refine r_gcasesD (fun hp hb => ?_) (fun hp hb => ?_) | refine r_gcasesN (fun hp hb => ?_) (fun hp hb => ?_) | refine r_gcasesM (fun hp hb => ?_) (fun hp hb => ?_) | refine r_gcasesB (fun hp hb => ?_) (fun hp hb => ?_)) <;> simp only [↓wt, wz, reduceAdd, reduceMul, reduceEqDiff, reduceLeDiff, Nat.reduceLT, reduceLE, reduceLT, reduceEq, reduceNe, look_eql, e1, e2, Tryz.results87, hb]) | ((with_reducible refine And.intro ?_ ?_); omega) | fail)
 · cases hm : a.mv
   · exact exp_bw (decide_eq_true (p := NoneA a) ⟨by assumption, by omega, by omega, by omega, hm⟩).symm
   · exact exp_bw (decide_eq_false (p := NoneA a) fun h => by have := h.2.2.2.2; rw [hm] at this; cases this).symm
 all_goals exact exp_bF (p := NoneA a) fun h => by obtain ⟨g1, g2, g3, g4, g5⟩ := h; first | omega | contradiction
theorem rnone_call (a : AudD) : PCall Tryz.prog 39 [AudV a] (.c (.bool (decide (NoneA a)))) := by
 refine pcall_body tabOk Tryz.func39 rfl rfl (by rw [Tryz.ntmps39]; simp) ?_
 simp only [Tryz.ntmps39, AudV]
 simp only [↓wt, wz, reduceAdd, reduceMul, reduceEqDiff, reduceLeDiff, Nat.reduceLT, reduceLE, reduceLT, reduceEq, reduceNe]
 repeat' (first | ((first | refine r_casesD (fun hp hb => ?_) (fun hp hb => ?_) | refine r_casesN (fun hp hb => ?_) (fun hp hb => ?_) | refine r_casesM (fun hp hb => ?_) (fun hp hb => ?_) | refine r_casesB (fun hp hb => ?_) (fun hp hb => ?_) | refine r_gcasesD (fun hp hb => ?_) (fun hp hb => ?_) | refine r_gcasesN (fun hp hb => ?_) (fun hp hb => ?_) | refine r_gcasesM (fun hp hb => ?_) (fun hp hb => ?_) | refine r_gcasesB (fun hp hb => ?_) (fun hp hb => ?_)) <;> simp only [↓wt, wz, reduceAdd, reduceMul, reduceEqDiff, reduceLeDiff, Nat.reduceLT, reduceLE, reduceLT, reduceEq, reduceNe, Tryz.results39, hb]) | ((with_reducible refine And.intro ?_ ?_); omega) | fail)
 · cases hm : a.mv
   · exact exp_bw (decide_eq_true (p := NoneA a) ⟨⟨by assumption, by assumption⟩, by omega, by omega, by omega, hm⟩).symm
   · exact exp_bw (decide_eq_false (p := NoneA a) fun h => by have := h.2.2.2.2; rw [hm] at this; cases this).symm
 all_goals exact exp_bF (p := NoneA a) fun h => by obtain ⟨⟨g0, g1⟩, g2, g3, g4, g5⟩ := h; first | omega | contradiction
def bad40 (v : Int) : Bool := decide (¬ Within v 1099511627776)
def Amts (l : List Int) : Prop := ∀ v ∈ l, Within v 1099511627776
instance (l : List Int) : Decidable (Amts l) := by unfold Amts; infer_instance
theorem amts_any {l : List Int} : (!l.any bad40) = decide (Amts l) := by
 rw [Bool.eq_iff_iff, decide_eq_true_iff]
 simp [Amts, bad40]
theorem amtf_call (v : Int) : PCall Tryz.prog 110 [.c (.int .i64 v)] (.c (.bool (bad40 v))) := by
 refine pcall_body tabOk Tryz.func110 rfl rfl (by rw [Tryz.ntmps110]; simp) ?_
 simp only [Tryz.ntmps110]
 simp only [↓wt, wz, reduceAdd, reduceMul, reduceEqDiff, reduceLeDiff, Nat.reduceLT, reduceLE, reduceLT, reduceEq, reduceNe]
 repeat' (first | ((first | refine r_casesD (fun hp hb => ?_) (fun hp hb => ?_) | refine r_casesN (fun hp hb => ?_) (fun hp hb => ?_) | refine r_casesM (fun hp hb => ?_) (fun hp hb => ?_) | refine r_casesB (fun hp hb => ?_) (fun hp hb => ?_) | refine r_gcasesD (fun hp hb => ?_) (fun hp hb => ?_) | refine r_gcasesN (fun hp hb => ?_) (fun hp hb => ?_) | refine r_gcasesM (fun hp hb => ?_) (fun hp hb => ?_) | refine r_gcasesB (fun hp hb => ?_) (fun hp hb => ?_)) <;> simp only [↓wt, wz, reduceAdd, reduceMul, reduceEqDiff, reduceLeDiff, Nat.reduceLT, reduceLE, reduceLT, reduceEq, reduceNe, Tryz.results110, hb]) | ((with_reducible refine And.intro ?_ ?_); omega) | fail)
 · exact exp_bT (p := ¬ Within v 1099511627776) (by unfold Within; omega)
 · exact exp_bE (p := ¬ Within v 1099511627776) (by unfold Within; omega)
theorem index40_call (o : List Int) (hl : o.length ≤ 1000000000) : PCall Tryz.prog 113 [.l 1 (o.map encI), .f 110 []] (.c (.int .i64 (idxA bad40 o 0))) := by
 refine pcall_body tabOk Tryz.func113 rfl rfl (by rw [Tryz.ntmps113]; simp) ?_
 simp only [Tryz.ntmps113]
 simp only [↓wt, wz, reduceAdd, reduceMul, reduceEqDiff, reduceLeDiff, Nat.reduceLT, reduceLE, reduceLT, reduceEq, reduceNe]
 refine loop_ruleC tabOk [0, 1, 7] (fun k : Nat => [(8, .c (.int .i64 k))]) (fun k => k ≤ o.length ∧ ∀ n, n < k → bad40 (o.getD n 0) = false) (fun k => o.length - k) 0 ⟨by omega, fun n h => by omega⟩ ?_ ?_
 · simp only [↓wt, wz, wkf, reduceAdd, reduceMul, reduceEqDiff, reduceLeDiff, Nat.reduceLT, reduceLE, reduceLT, reduceEq, reduceNe, underL_I, under_f]
   try trivial
 · rintro k ⟨h1, h2⟩
   simp only [↓wt, wz, reduceAdd, reduceMul, reduceEqDiff, reduceLeDiff, Nat.reduceLT, reduceLE, reduceLT, reduceEq, reduceNe]
   repeat' (first | ((first | refine r_casesD (fun hp hb => ?_) (fun hp hb => ?_) | refine r_casesN (fun hp hb => ?_) (fun hp hb => ?_) | refine r_casesM (fun hp hb => ?_) (fun hp hb => ?_) | refine r_casesB (fun hp hb => ?_) (fun hp hb => ?_) | refine r_gcasesD (fun hp hb => ?_) (fun hp hb => ?_) | refine r_gcasesN (fun hp hb => ?_) (fun hp hb => ?_) | refine r_gcasesM (fun hp hb => ?_) (fun hp hb => ?_) | refine r_gcasesB (fun hp hb => ?_) (fun hp hb => ?_)) <;> simp only [↓wt, wz, reduceAdd, reduceMul, reduceEqDiff, reduceLeDiff, Nat.reduceLT, reduceLE, reduceLT, reduceEq, reduceNe, hb]) | ((with_reducible refine And.intro ?_ ?_); omega) | fail)
   · have hkl : k < o.length := by omega
     have e1 := wi_succ (k := k) (by omega)
     repeat (refine And.intro (by omega) ?_)
     refine icall_drop [] (amtf_call (o.getD k 0)) ⟨arg_c, trivial⟩ (.c _) ?_
     simp only [↓wt, wz, reduceAdd, reduceMul, reduceEqDiff, reduceLeDiff, Nat.reduceLT, reduceLE, reduceLT, reduceEq, reduceNe]
     cases f1 : bad40 (o.getD k 0) with
     | true =>
      simp only [↓wt, wz, reduceAdd, reduceMul, reduceEqDiff, reduceLeDiff, Nat.reduceLT, reduceLE, reduceLT, reduceEq, reduceNe, f1, Tryz.results113]
      rw [idxA_at (d := 0) o k 0 (by omega) h2 f1, Nat.zero_add]
      exact exp_c
     | false =>
      simp only [↓wt, wz, reduceAdd, reduceMul, reduceEqDiff, reduceLeDiff, Nat.reduceLT, reduceLE, reduceLT, reduceEq, reduceNe, f1, e1]
      refine ⟨k + 1, ⟨by omega, fun n hn => ?_⟩, by omega, ?_⟩
      · rcases Nat.lt_or_ge n k with h | h
        · exact h2 n h
        · have : n = k := by omega
          subst this; exact f1
      · simp only [↓wt, wz, wkf, reduceAdd, reduceMul, reduceEqDiff, reduceLeDiff, Nat.reduceLT, reduceLE, reduceLT, reduceEq, reduceNe, e1, underL_I, under_f]
        try trivial
   · simp only [↓wt, wz, reduceAdd, reduceMul, reduceEqDiff, reduceLeDiff, Nat.reduceLT, reduceLE, reduceLT, reduceEq, reduceNe, Tryz.results113]
     rw [idxA_none (d := 0) o 0 fun j hj => h2 j (by omega)]
     exact exp_c
theorem contains40_call (o : List Int) (hl : o.length ≤ 1000000000) : PCall Tryz.prog 102 [.l 1 (o.map encI), .f 110 []] (.c (.bool (o.any bad40))) := by
 refine pcall_body tabOk Tryz.func102 rfl rfl (by rw [Tryz.ntmps102]; simp) ?_
 simp only [Tryz.ntmps102]
 simp only [↓wt, wz, reduceAdd, reduceMul, reduceEqDiff, reduceLeDiff, Nat.reduceLT, reduceLE, reduceLT, reduceEq, reduceNe]
 refine icall_drop [] (index40_call o hl) ⟨arg_l (pureI _), arg_f, trivial⟩ (.c _) ?_
 simp only [↓wt, wz, reduceAdd, reduceMul, reduceEqDiff, reduceLeDiff, Nat.reduceLT, reduceLE, reduceLT, reduceEq, reduceNe, idxA_any, Tryz.results102]
 exact exp_c
theorem amounts_call (o : List Int) (hl : o.length ≤ 1000000000) : PCall Tryz.prog 88 [.l 1 (o.map encI)] (.c (.bool (decide (Amts o)))) := by
 refine pcall_body tabOk Tryz.func88 rfl rfl (by rw [Tryz.ntmps88]; simp) ?_
 simp only [Tryz.ntmps88]
 simp only [↓wt, wz, reduceAdd, reduceMul, reduceEqDiff, reduceLeDiff, Nat.reduceLT, reduceLE, reduceLT, reduceEq, reduceNe]
 refine icall_drop [] (contains40_call o hl) ⟨arg_l (pureI _), arg_f, trivial⟩ (.c _) ?_
 simp only [↓wt, wz, reduceAdd, reduceMul, reduceEqDiff, reduceLeDiff, Nat.reduceLT, reduceLE, reduceLT, reduceEq, reduceNe, amts_any, Tryz.results88]
 exact exp_c
theorem athere_call (c : Conf) (who : Int) : PCall Tryz.prog 86 [ConfA c, .c (.int .i64 who)] (.c (.bool (decide (ThereC c who)))) := by
 refine pcall_body tabOk Tryz.func86 rfl rfl (by rw [Tryz.ntmps86]; simp) ?_
 simp only [Tryz.ntmps86, ConfA]
 simp only [↓wt, wz, reduceAdd, reduceMul, reduceEqDiff, reduceLeDiff, Nat.reduceLT, reduceLE, reduceLT, reduceEq, reduceNe]
 refine icall_drop [] (rtmay_call c) ⟨arg_conf', trivial⟩ (.c _) ?_
 simp only [↓wt, wz, reduceAdd, reduceMul, reduceEqDiff, reduceLeDiff, Nat.reduceLT, reduceLE, reduceLT, reduceEq, reduceNe]
 repeat' (first | ((first | refine r_casesD (fun hp hb => ?_) (fun hp hb => ?_) | refine r_casesN (fun hp hb => ?_) (fun hp hb => ?_) | refine r_casesM (fun hp hb => ?_) (fun hp hb => ?_) | refine r_casesB (fun hp hb => ?_) (fun hp hb => ?_) | refine r_gcasesD (fun hp hb => ?_) (fun hp hb => ?_) | refine r_gcasesN (fun hp hb => ?_) (fun hp hb => ?_) | refine r_gcasesM (fun hp hb => ?_) (fun hp hb => ?_) | refine r_gcasesB (fun hp hb => ?_) (fun hp hb => ?_)) <;> simp only [↓wt, wz, reduceAdd, reduceMul, reduceEqDiff, reduceLeDiff, Nat.reduceLT, reduceLE, reduceLT, reduceEq, reduceNe, Tryz.results86, hb]) | ((with_reducible refine And.intro ?_ ?_); omega) | fail)
 · exact exp_bE ⟨fun h => ⟨by assumption, by unfold There; omega⟩, fun h => h.2.2⟩
 all_goals exact exp_bF (p := ThereC c who) fun h => by obtain ⟨g1, g2⟩ := h; unfold There at g2; first | omega | contradiction
def RunA (c : Conf) (who : Int) (a : AudD) : Prop :=
 (1 ≤ a.y ∧ a.y ≤ 1125899906842624 ∧ 1 ≤ a.p ∧ a.p ≤ 2) ∧ ((a.told.length : Int) = c.n ∧ (a.use.length : Int) = c.n ∧ (a.inc.length : Int) = c.n) ∧ a.told.getD who.toNat false = false ∧ Amts a.use ∧ Amts a.inc
instance (c : Conf) (who : Int) (a : AudD) : Decidable (RunA c who a) := by unfold RunA; infer_instance
def MayA (c : Conf) (who : Int) (a : AudD) : Prop := ThereC c who ∧ (NoneA a ∨ RunA c who a)
instance (c : Conf) (who : Int) (a : AudD) : Decidable (MayA c who a) := by unfold MayA; infer_instance
set_option maxHeartbeats 4000000 in
theorem maya_call (c : Conf) (who : Int) (a : AudD) (hl : LenA a) : PCall Tryz.prog 50 [ConfA c, .c (.int .i64 who), AudV a] (.c (.bool (decide (MayA c who a)))) := by
 refine pcall_body tabOk Tryz.func50 rfl rfl (by rw [Tryz.ntmps50]; simp) ?_
 simp only [Tryz.ntmps50, ConfA, AudV]
 simp only [↓wt, wz, reduceAdd, reduceMul, reduceEqDiff, reduceLeDiff, Nat.reduceLT, reduceLE, reduceLT, reduceEq, reduceNe]
 refine icall_drop [] (athere_call c who) ⟨arg_conf', arg_c, trivial⟩ (.c _) ?_
 simp only [↓wt, wz, reduceAdd, reduceMul, reduceEqDiff, reduceLeDiff, Nat.reduceLT, reduceLE, reduceLT, reduceEq, reduceNe]
 refine r_casesN (fun hth hb => ?_) (fun hth hb => ?_) <;> simp only [↓wt, wz, reduceAdd, reduceMul, reduceEqDiff, reduceLeDiff, Nat.reduceLT, reduceLE, reduceLT, reduceEq, reduceNe, hb]
 rotate_left
 · simp only [↓wt, wz, reduceAdd, reduceMul, reduceEqDiff, reduceLeDiff, Nat.reduceLT, reduceLE, reduceLT, reduceEq, reduceNe, Tryz.results50]
   exact exp_bF (p := MayA c who a) fun h => hth h.1
 refine icall_drop [] (none_call a hl) ⟨arg_aud, trivial⟩ (.c _) ?_
 simp only [↓wt, wz, reduceAdd, reduceMul, reduceEqDiff, reduceLeDiff, Nat.reduceLT, reduceLE, reduceLT, reduceEq, reduceNe]
 refine r_casesD (fun hno hb => ?_) (fun hno hb => ?_) <;> simp only [↓wt, wz, reduceAdd, reduceMul, reduceEqDiff, reduceLeDiff, Nat.reduceLT, reduceLE, reduceLT, reduceEq, reduceNe, hb]
 · simp only [↓wt, wz, reduceAdd, reduceMul, reduceEqDiff, reduceLeDiff, Nat.reduceLT, reduceLE, reduceLT, reduceEq, reduceNe, Tryz.results50]
   exact exp_bT (p := MayA c who a) ⟨hth, .inl hno⟩
 have hw : 0 ≤ who ∧ who < c.n := hth.2
 have hmn : MayA c who a ↔ RunA c who a := ⟨fun h => h.2.resolve_left hno, fun h => ⟨hth, .inr h⟩⟩
 repeat' (first | ((first | refine r_casesD (fun hp hb => ?_) (fun hp hb => ?_) | refine r_casesN (fun hp hb => ?_) (fun hp hb => ?_) | refine r_casesM (fun hp hb => ?_) (fun hp hb => ?_) | refine r_casesB (fun hp hb => ?_) (fun hp hb => ?_) | refine r_gcasesD (fun hp hb => ?_) (fun hp hb => ?_) | refine r_gcasesN (fun hp hb => ?_) (fun hp hb => ?_) | refine r_gcasesM (fun hp hb => ?_) (fun hp hb => ?_) | refine r_gcasesB (fun hp hb => ?_) (fun hp hb => ?_)) <;> simp only [↓wt, wz, reduceAdd, reduceMul, reduceEqDiff, reduceLeDiff, Nat.reduceLT, reduceLE, reduceLT, reduceEq, reduceNe, elem_O, Tryz.results50, hb]) | ((with_reducible refine And.intro ?_ ?_); omega) | fail)
 all_goals try exact exp_bF (p := MayA c who a) fun h => by obtain ⟨⟨g1, g2, g3, g4⟩, ⟨g5, g6, g7⟩, g8, g9, g10⟩ := hmn.1 h; first | omega | contradiction | (rw [hp] at g8; cases g8)
 have htl := hp
 refine icall_drop [] (amounts_call a.use hl.2.1) ⟨arg_l (pureI _), trivial⟩ (.c _) ?_
 simp only [↓wt, wz, reduceAdd, reduceMul, reduceEqDiff, reduceLeDiff, Nat.reduceLT, reduceLE, reduceLT, reduceEq, reduceNe]
 repeat' (first | ((first | refine r_casesD (fun hp hb => ?_) (fun hp hb => ?_) | refine r_casesN (fun hp hb => ?_) (fun hp hb => ?_) | refine r_casesM (fun hp hb => ?_) (fun hp hb => ?_) | refine r_casesB (fun hp hb => ?_) (fun hp hb => ?_) | refine r_gcasesD (fun hp hb => ?_) (fun hp hb => ?_) | refine r_gcasesN (fun hp hb => ?_) (fun hp hb => ?_) | refine r_gcasesM (fun hp hb => ?_) (fun hp hb => ?_) | refine r_gcasesB (fun hp hb => ?_) (fun hp hb => ?_)) <;> simp only [↓wt, wz, reduceAdd, reduceMul, reduceEqDiff, reduceLeDiff, Nat.reduceLT, reduceLE, reduceLT, reduceEq, reduceNe, Tryz.results50, hb]) | ((with_reducible refine And.intro ?_ ?_); omega) | fail)
 rotate_left
 · exact exp_bF (p := MayA c who a) fun h => by obtain ⟨⟨g1, g2, g3, g4⟩, ⟨g5, g6, g7⟩, g8, g9, g10⟩ := hmn.1 h; contradiction
 refine icall_drop [] (amounts_call a.inc hl.2.2) ⟨arg_l (pureI _), trivial⟩ (.c _) ?_
 simp only [↓wt, wz, reduceAdd, reduceMul, reduceEqDiff, reduceLeDiff, Nat.reduceLT, reduceLE, reduceLT, reduceEq, reduceNe, Tryz.results50]
 exact exp_bE ⟨fun h => hmn.2 ⟨⟨by omega, by omega, by omega, by omega⟩, ⟨by assumption, by assumption, by assumption⟩, htl, hp, h⟩, fun h => (hmn.1 h).2.2.2.2⟩
def AllA (who : Int) (a : AudD) : Prop := (∀ k, k < a.told.length → (k : Int) ≠ who → a.told.getD k false = true) ∧ ¬ NoneA a
instance (who : Int) (a : AudD) : Decidable (AllA who a) := by unfold AllA; infer_instance
end Go.Ab
