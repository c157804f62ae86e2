/- Books: so many of something, as they are read. -/
import Derived.Test.YtkikaagieknpdaaGreatTBk1
set_option linter.unusedSimpArgs false
set_option linter.unusedVariables false
set_option linter.constructorNameAsVariable false
set_option maxRecDepth 100000
open Nat (reduceAdd reduceMul reduceEqDiff reduceLeDiff)
open Int (reduceLE reduceLT reduceEq reduceNe)
namespace Go.Ab
open Go Go.Proofs Go.RowKit
variable {pf : Value → Mem → Prop}
theorem many_snoc {α : Type} {P : Rd α} {k : Nat} {s s1 s2 : List UInt8} {xs : List α} {x : α} (h : manyP P k s = some (xs, s1)) (h2 : P s1 = some (x, s2)) : manyP P (k + 1) s = some (xs ++ [x], s2) := by
 rw [manyP, bindP_s h, bindP_s h2]; rfl
theorem many_none1 {α : Type} {P : Rd α} {k : Nat} {s s1 : List UInt8} {xs : List α} (h : manyP P k s = some (xs, s1)) (h2 : P s1 = none) : manyP P (k + 1) s = none := by
 rw [manyP, bindP_s h, bindP_n h2]
theorem many_none {α : Type} {P : Rd α} {k : Nat} {s s1 : List UInt8} {xs : List α} (h : manyP P k s = some (xs, s1)) (h2 : P s1 = none) : ∀ n, k < n → manyP P n s = none
 | 0, hn => absurd hn (by omega)
 | n + 1, hn => by
  by_cases e : k = n
  · subst e; exact many_none1 h h2
  · rw [manyP, bindP_n (many_none h h2 n (by omega))]
theorem many_len {α : Type} {P : Rd α} (hP : ∀ b r x, P b = some (x, r) → r.length ≤ b.length) : ∀ k s r xs, manyP P k s = some (xs, r) → r.length ≤ s.length ∧ xs.length = k
 | 0, s, r, xs, h => by cases h; exact ⟨Nat.le_refl _, rfl⟩
 | k + 1, s, r, xs, h => by
  obtain ⟨ys, s1, h1, h⟩ := bindP_some h
  obtain ⟨x, s2, h2, h⟩ := bindP_some h
  obtain ⟨e1, e2⟩ := many_len hP k s s1 ys h1
  have := hP _ _ _ h2
  cases h
  exact ⟨by omega, by simp [e2]⟩
theorem req_len {w : Int} : ∀ b r x, reqP w b = some (x, r) → r.length ≤ b.length := fun b r x h => by
 obtain ⟨_, _, h1, h⟩ := bindP_some h
 obtain ⟨_, _, h2, h⟩ := bindP_some h
 have := rd_len h1
 have := rd_len h2
 cases h; omega
theorem out_len {w : Int} : ∀ b r x, outP w b = some (x, r) → r.length ≤ b.length := fun b r x h => by
 obtain ⟨_, _, h1, h⟩ := bindP_some h
 obtain ⟨_, _, h2, h⟩ := bindP_some h
 have := rd_len h1
 have := rd_len h2
 cases h; omega
theorem note_len : ∀ b r x, noteP b = some (x, r) → r.length ≤ b.length := fun b r x h => by
 obtain ⟨_, _, h1, h⟩ := bindP_some h
 obtain ⟨_, _, h2, h⟩ := bindP_some h
 obtain ⟨_, _, h3, h⟩ := bindP_some h
 obtain ⟨_, _, h4, h⟩ := bindP_some h
 obtain ⟨_, _, h5, h⟩ := bindP_some h
 obtain ⟨_, _, h6, h⟩ := bindP_some h
 have := rd_len h1
 have := rd_len h2
 have := rd_len h3
 have := rd_len h4
 have := rd_len h5
 have := look_len h6
 cases h; omega
theorem RC3.lend {α : Type} [Inhabited α] {f : FuncId} {w : Int} {P : Rd α} {enc : α → AV} {s : List UInt8} {M : Mem} {K : AV → Mem → Prop} (h : RC3 pf f w P enc s) (a b : Nat) (hab : a ≠ b) (ha : M.get a = some (RkB s)) (hb : M.get b = some ⟨55, 1, [.p a 0 0 1]⟩)
 (he : PureR (enc (pv P s))) (hI : Indep pf)
 (hK : P s = some (pv P s, ps P s) → K (enc (pv P s)) ⟨putAll (rnI [a, b] M.k) (M.without [a, b]).l (Rk3 (ps P s)).l, M.k⟩) : ICallG pf Tryz.prog f [.p b 0 0 1, .e [.c (.int .i64 w)]] M K :=
 icall_lendG [a, b] [RkB s, RkBox] h (by simp [hab]) ⟨⟨by rw [ha, rn_Rk], hd_Rk⟩, ⟨by rw [hb]; rfl, fun x hx => by rw [List.mem_singleton.1 hx]; exact show 0 < 2 by decide⟩, trivial⟩
  ⟨.inl ⟨rfl, show 1 < 2 by decide⟩, .inr ⟨by unfold Weak; exact Weak1.refl _, .e _ fun i hi => by
   have : i = 0 := by simpa using hi
   subst this; exact .c _⟩, trivial⟩ (he.2 _) ⟨hd_Rk, (fun x hx => by rw [List.mem_singleton.1 hx]; exact show 0 < 2 by decide), trivial⟩ (fun hG => by rw [he.1]; exact hK hG) hI
theorem pureR_req {r : ReqD} : PureR (ReqA r) := pureR_g (by simp)
theorem pureR_out {r : OutD} : PureR (OutA r) := pureR_g (by simp)
theorem under_ReqA {k : Nat} (r : ReqD) : ∀ x ∈ (ReqA r).cells, Under k x := fun x hx => by
 simp only [ReqA, AV.cells, List.mem_cons, List.not_mem_nil, or_false] at hx
 rcases hx with rfl | rfl | rfl <;> exact .c _
theorem underL_Q {k : Nat} {l : List ReqD} : UnderL k (l.map ReqA) = True := eq_true (underL_map k under_ReqA l)
theorem pureQ (l : List ReqD) : PureL (l.map ReqA) := by rw [pureL_eq, underL_Q]; trivial
theorem under_OutA {k : Nat} (r : OutD) : ∀ x ∈ (OutA r).cells, Under k x := fun x hx => by
 simp only [OutA, AV.cells, List.mem_cons, List.not_mem_nil, or_false] at hx
 rcases hx with rfl | rfl | rfl <;> exact .c _
theorem underL_U {k : Nat} {l : List OutD} : UnderL k (l.map OutA) = True := eq_true (underL_map k under_OutA l)
theorem pureU (l : List OutD) : PureL (l.map OutA) := by rw [pureL_eq, underL_U]; trivial
theorem under_cl {k n : Nat} {v : Value} (h : 1 < k) : Under k (.f n [.p 1 0 0 1, .e [.c v]]) := under_f.mpr fun a ha => by
 simp only [List.mem_cons, List.not_mem_nil, or_false] at ha
 rcases ha with rfl | rfl
 · exact .p _ _ _ _ h
 · exact .e _ fun i hi => by
    have : i = 0 := by simpa using hi
    subst this; exact .c _
def ManyM (T sz : Nat) (xs : List AV) (s : List UInt8) : Mem := ⟨[(0, RkB s), (1, RkBox), (2, ⟨T, sz, xs⟩)], 3⟩
theorem fok_Rk {M : Mem} {id : Nat} {s : List UInt8} : ∀ x ∈ (RkB s).xs, ∀ c ∈ x.cells, FOk M id c := fun x hx c hc => by
 simp only [RkB, List.mem_singleton] at hx
 subst hx
 rw [List.mem_singleton.1 hc]
 trivial
theorem fok_Box {M : Mem} : ∀ x ∈ RkBox.xs, ∀ c ∈ x.cells, FOk M 2 c := fun x hx c hc => by
 rw [List.mem_singleton.1 hx] at hc
 rw [List.mem_singleton.1 hc]
 exact fun h => absurd h (by decide)
theorem under_Box {k : Nat} : UnderL (k + 1) RkBox.xs := underL_mem fun x hx c hc => by
 rw [List.mem_singleton.1 hx] at hc
 rw [List.mem_singleton.1 hc]
 exact .p _ _ _ _ (Nat.succ_pos _)
theorem pureQ' {k : Nat} (l : List ReqD) : UnderL k (l.map ReqA) := underL_Q.mpr trivial
theorem pureU' {k : Nat} (l : List OutD) : UnderL k (l.map OutA) := underL_U.mpr trivial
theorem pureN' {k : Nat} (l : List NoteD) : UnderL k (l.map NoteV) := underL_N.mpr trivial
set_option maxHeartbeats 4000000 in
theorem bkmanyQ_call (w : Int) (n : Nat) (s : List UInt8) (hl : s.length ≤ 1000000000) (hn : n ≤ 1000) (hpf : manyP (reqP w) n s = none → ∀ M, pf wrongV M) (hI : Indep pf) :
 ICallG pf Tryz.prog 61 [.c (.int .i64 n), .f 63 [.p 1 0 0 1, .e [.c (.int .i64 w)]]] (Rk3 s)
  (fun a M' => manyP (reqP w) n s = some (pv (manyP (reqP w) n) s, ps (manyP (reqP w) n) s) ∧ a = .l 3 ((pv (manyP (reqP w) n) s).map ReqA) ∧ M' = Rk3 (ps (manyP (reqP w) n) s)) := by
 refine ICallG.trim (ICall.frz (icall_bodyP tabOk Tryz.func61 rfl rfl (by rw [Tryz.ntmps61]; simp) (aw_sound tabOk _ _ _ ?_)))
 simp only [Tryz.ntmps61, Rk3, RkBox]
 simp only [↓wt, wz, reduceAdd, reduceMul, reduceEqDiff, reduceLeDiff, Nat.reduceLT, reduceLE, reduceLT, reduceEq, reduceNe, wpn]
 refine adopt_rule 5 68 3 rfl ?_
 refine aw_sound tabOk _ _ _ ?_
 simp only [↓wt, wz, reduceAdd, reduceMul, reduceEqDiff, reduceLeDiff, Nat.reduceLT, reduceLE, reduceLT, reduceEq, reduceNe, wpn]
 refine loop_ruleM tabOk [1, 6] (fun k : Nat => [(5, .s 2 0 k), (7, .c (.int .i64 k))]) (fun k => ManyM 68 3 ((pv (manyP (reqP w) k) s).map ReqA) (ps (manyP (reqP w) k) s)) (fun k => k ≤ n ∧ manyP (reqP w) k s = some (pv (manyP (reqP w) k) s, ps (manyP (reqP w) k) s)) (fun k => n - k) 0 ⟨Nat.zero_le _, rfl⟩ (fun _ => rfl) ?_ ?_
 · simp only [↓wt, wz, wkf, reduceAdd, reduceMul, reduceEqDiff, reduceLeDiff, Nat.reduceLT, reduceLE, reduceLT, reduceEq, reduceNe, ManyM, RkBox]
   exact ⟨under_cl (by decide), ⟨rfl, under_Rk⟩, rfl, underL_Q.mpr trivial⟩
 · rintro k ⟨hk, hG⟩
   have e3 := wi_succ (k := k) (by omega)
   obtain ⟨hln, hxl⟩ := many_len (req_len (w := w)) _ _ _ _ hG
   generalize hx : pv (manyP (reqP w) k) s = xs at *
   generalize hs : ps (manyP (reqP w) k) s = s1 at *
   by_cases hkn : k < n
   · have hb : decide ((k : Int) < (n : Int)) = true := decide_eq_true (by omega)
     simp only [↓wt, wz, reduceAdd, reduceMul, reduceEqDiff, reduceLeDiff, Nat.reduceLT, reduceLE, reduceLT, reduceEq, reduceNe, ManyM, hb, wpn]
     refine RC3.lend (bkreq_call w s1 (by omega) (fun h => hpf (many_none hG h n hkn)) hI) 0 1 (by decide) rfl rfl pureR_req hI fun hG2 => ?_
     generalize pv (reqP w) s1 = x at *
     generalize ps (reqP w) s1 = s2 at *
     have hG3 := many_snoc hG hG2
     have hm : (xs ++ [x]).map ReqA = xs.map ReqA ++ [.g [.c (.int .i64 x.t), .c (.int .i64 x.w), .c (.int .i64 x.a)]] := by simp [ReqA]
     simp only [↓wt, wz, reduceAdd, reduceMul, reduceEqDiff, reduceLeDiff, Nat.reduceLT, reduceLE, reduceLT, reduceEq, reduceNe, Rk3, Cell, ReqA, e3, rnI, nblt, rn0, rnC, rnE, rnR, rnB, putAll, Nat.reduceSub, Nat.sub_zero, Nat.not_lt_zero, Nat.zero_sub, Nat.sub_self, rn_I, rn_B]
     refine ⟨hxl.symm, by omega, k + 1, ?_⟩
     rw [pv_eq hG3, ps_eq hG3]
     refine ⟨⟨by omega, hG3⟩, by omega, ?_⟩
     simp only [↓wt, wz, wkf, reduceAdd, reduceMul, reduceEqDiff, reduceLeDiff, Nat.reduceLT, reduceLE, reduceLT, reduceEq, reduceNe, hxl, hm, e3]
     refine ⟨under_cl (by decide), ⟨rfl, under_Rk⟩, ⟨rfl, under_Box⟩, ?_⟩
     rw [← hm]
     exact pureQ' _
   · have hb : decide ((k : Int) < (n : Int)) = false := decide_eq_false (by omega)
     have hk2 : k = n := by omega
     subst hk2
     simp only [↓wt, wz, reduceAdd, reduceMul, reduceEqDiff, reduceLeDiff, Nat.reduceLT, reduceLE, reduceLT, reduceEq, reduceNe, ManyM, hb, wpn, Tryz.results61]
     refine .step 2 (by simp only [↓wt, wz, reduceAdd, reduceMul, reduceEqDiff, reduceLeDiff, Nat.reduceLT, reduceLE, reduceLT, reduceEq, reduceNe]; exact ⟨fok_Rk, fok_Box⟩) (fun _ => ⟨_, rfl, by simp [hxl], pureQ _⟩) (.done ?_)
     simp only [↓wt, wz, reduceAdd, reduceMul, reduceEqDiff, reduceLeDiff, Nat.reduceLT, reduceLE, reduceLT, reduceEq, reduceNe, frzR]
     refine ⟨Rk3 s1, Nat.le_refl _, .l _ _ (pureQ' _), ⟨⟨(show 0 < 2 by decide), rfl, under_Rk⟩, ⟨(show 1 < 2 by decide), rfl, under_Box⟩, trivial⟩, ?_⟩
     rw [hx, hs]
     exact ⟨hG, rfl, rfl⟩
set_option maxHeartbeats 4000000 in
theorem bkmanyU_call (w : Int) (n : Nat) (s : List UInt8) (hl : s.length ≤ 1000000000) (hn : n ≤ 1000) (hpf : manyP (outP w) n s = none → ∀ M, pf wrongV M) (hI : Indep pf) :
 ICallG pf Tryz.prog 64 [.c (.int .i64 n), .f 65 [.p 1 0 0 1, .e [.c (.int .i64 w)]]] (Rk3 s)
  (fun a M' => manyP (outP w) n s = some (pv (manyP (outP w) n) s, ps (manyP (outP w) n) s) ∧ a = .l 3 ((pv (manyP (outP w) n) s).map OutA) ∧ M' = Rk3 (ps (manyP (outP w) n) s)) := by
 refine ICallG.trim (ICall.frz (icall_bodyP tabOk Tryz.func64 rfl rfl (by rw [Tryz.ntmps64]; simp) (aw_sound tabOk _ _ _ ?_)))
 simp only [Tryz.ntmps64, Rk3, RkBox]
 simp only [↓wt, wz, reduceAdd, reduceMul, reduceEqDiff, reduceLeDiff, Nat.reduceLT, reduceLE, reduceLT, reduceEq, reduceNe, wpn]
 refine adopt_rule 5 70 3 rfl ?_
 refine aw_sound tabOk _ _ _ ?_
 simp only [↓wt, wz, reduceAdd, reduceMul, reduceEqDiff, reduceLeDiff, Nat.reduceLT, reduceLE, reduceLT, reduceEq, reduceNe, wpn]
 refine loop_ruleM tabOk [1, 6] (fun k : Nat => [(5, .s 2 0 k), (7, .c (.int .i64 k))]) (fun k => ManyM 70 3 ((pv (manyP (outP w) k) s).map OutA) (ps (manyP (outP w) k) s)) (fun k => k ≤ n ∧ manyP (outP w) k s = some (pv (manyP (outP w) k) s, ps (manyP (outP w) k) s)) (fun k => n - k) 0 ⟨Nat.zero_le _, rfl⟩ (fun _ => rfl) ?_ ?_
 · simp only [↓wt, wz, wkf, reduceAdd, reduceMul, reduceEqDiff, reduceLeDiff, Nat.reduceLT, reduceLE, reduceLT, reduceEq, reduceNe, ManyM, RkBox]
   exact ⟨under_cl (by decide), ⟨rfl, under_Rk⟩, rfl, underL_U.mpr trivial⟩
 · rintro k ⟨hk, hG⟩
   have e3 := wi_succ (k := k) (by omega)
   obtain ⟨hln, hxl⟩ := many_len (out_len (w := w)) _ _ _ _ hG
   generalize hx : pv (manyP (outP w) k) s = xs at *
   generalize hs : ps (manyP (outP w) k) s = s1 at *
   by_cases hkn : k < n
   · have hb : decide ((k : Int) < (n : Int)) = true := decide_eq_true (by omega)
     simp only [↓wt, wz, reduceAdd, reduceMul, reduceEqDiff, reduceLeDiff, Nat.reduceLT, reduceLE, reduceLT, reduceEq, reduceNe, ManyM, hb, wpn]
     refine RC3.lend (bkout_call w s1 (by omega) (fun h => hpf (many_none hG h n hkn)) hI) 0 1 (by decide) rfl rfl pureR_out hI fun hG2 => ?_
     generalize pv (outP w) s1 = x at *
     generalize ps (outP w) s1 = s2 at *
     have hG3 := many_snoc hG hG2
     have hm : (xs ++ [x]).map OutA = xs.map OutA ++ [.g [.c (.int .i64 x.t), .c (.int .i64 x.w), .c (.int .i64 x.c)]] := by simp [OutA]
     simp only [↓wt, wz, reduceAdd, reduceMul, reduceEqDiff, reduceLeDiff, Nat.reduceLT, reduceLE, reduceLT, reduceEq, reduceNe, Rk3, Cell, OutA, e3, rnI, nblt, rn0, rnC, rnE, rnR, rnB, putAll, Nat.reduceSub, Nat.sub_zero, Nat.not_lt_zero, Nat.zero_sub, Nat.sub_self, rn_I, rn_B]
     refine ⟨hxl.symm, by omega, k + 1, ?_⟩
     rw [pv_eq hG3, ps_eq hG3]
     refine ⟨⟨by omega, hG3⟩, by omega, ?_⟩
     simp only [↓wt, wz, wkf, reduceAdd, reduceMul, reduceEqDiff, reduceLeDiff, Nat.reduceLT, reduceLE, reduceLT, reduceEq, reduceNe, hxl, hm, e3]
     refine ⟨under_cl (by decide), ⟨rfl, under_Rk⟩, ⟨rfl, under_Box⟩, ?_⟩
     rw [← hm]
     exact pureU' _
   · have hb : decide ((k : Int) < (n : Int)) = false := decide_eq_false (by omega)
     have hk2 : k = n := by omega
     subst hk2
     simp only [↓wt, wz, reduceAdd, reduceMul, reduceEqDiff, reduceLeDiff, Nat.reduceLT, reduceLE, reduceLT, reduceEq, reduceNe, ManyM, hb, wpn, Tryz.results64]
     refine .step 2 (by simp only [↓wt, wz, reduceAdd, reduceMul, reduceEqDiff, reduceLeDiff, Nat.reduceLT, reduceLE, reduceLT, reduceEq, reduceNe]; exact ⟨fok_Rk, fok_Box⟩) (fun _ => ⟨_, rfl, by simp [hxl], pureU _⟩) (.done ?_)
     simp only [↓wt, wz, reduceAdd, reduceMul, reduceEqDiff, reduceLeDiff, Nat.reduceLT, reduceLE, reduceLT, reduceEq, reduceNe, frzR]
     refine ⟨Rk3 s1, Nat.le_refl _, .l _ _ (pureU' _), ⟨⟨(show 0 < 2 by decide), rfl, under_Rk⟩, ⟨(show 1 < 2 by decide), rfl, under_Box⟩, trivial⟩, ?_⟩
     rw [hx, hs]
     exact ⟨hG, rfl, rfl⟩
theorem under_bn {k n : Nat} (h : 0 < k) : Under k (.b n [.p 0 0 0 1]) := under_b.mpr fun a ha => by
 rw [List.mem_singleton.1 ha]; exact .p _ _ _ _ h
theorem pureR_note {x : NoteD} : PureR (NoteV x) := pureR_g (by simp)
end Go.Ab
