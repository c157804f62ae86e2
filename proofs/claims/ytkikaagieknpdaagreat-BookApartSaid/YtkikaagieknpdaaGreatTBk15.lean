/- Books: what is put: numbers, through a variable that was lent. Books: what .. -/
import Derived.Test.YtkikaagieknpdaaGreatTBk8
import Derived.Test.YtkikaagieknpdaaGreatTRt8
import Derived.Test.YtkikaagieknpdaaGreatTGr1
import Derived.Test.YtkikaagieknpdaaGreatAbG7
import Derived.Test.YtkikaagieknpdaaGreatTBk1
import Derived.Test.YtkikaagieknpdaaGreatTRt12
import Derived.Test.YtkikaagieknpdaaGreatTRt15
set_option linter.unusedSimpArgs false
set_option linter.unusedVariables false
set_option linter.constructorNameAsVariable false
set_option maxRecDepth 100000
open Nat (reduceAdd reduceMul reduceEqDiff reduceLeDiff)
open Int (reduceLE reduceLT reduceEq reduceNe)
namespace Go.Ab
open Go Go.Proofs Go.RowKit
def BpN (l : List UInt8) (ns : List Int) : Mem := ⟨[(0, ⟨24, 1, [Bs l]⟩), (1, ⟨2, 1, ns.map encI⟩)], 2⟩
set_option maxHeartbeats 2000000 in
theorem bkput1_call (l : List UInt8) (ns : List Int) (hl : l.length + 10 * ns.length ≤ 1000000000) : ICall Tryz.prog 31 [.s 1 0 ns.length, .p 0 0 0 1] (BpN l ns) (fun a M' => a = .t [] ∧ M' = BpN (l ++ encN ns) ns) := by
 refine icall_body tabOk Tryz.func31 rfl rfl (by rw [Tryz.ntmps31]; simp) (aw_sound tabOk _ _ _ ?_)
 simp only [Tryz.ntmps31, BpN, Bs]
 simp only [↓wt, wz, reduceAdd, reduceMul, reduceEqDiff, reduceLeDiff, Nat.reduceLT, reduceLE, reduceLT, reduceEq, reduceNe]
 refine loop_ruleM tabOk [1, 5, 6] (fun k : Nat => [(7, .c (.int .i64 k))]) (fun k => BpN (l ++ encN (ns.take k)) ns) (fun k => k ≤ ns.length) (fun k => ns.length - k) 0 (by omega) (fun _ => rfl) ?_ ?_
 · simp only [↓wt, wz, wkf, reduceAdd, reduceMul, reduceEqDiff, reduceLeDiff, Nat.reduceLT, reduceLE, reduceLT, reduceEq, reduceNe, BpN, Bs, encN, List.take_zero, List.append_nil]
   try trivial
 · intro k h1
   have e3 := wi_succ (k := k) (by omega)
   have h2 := encNI_len (l := ns) (k := k)
   simp only [↓wt, wz, reduceAdd, reduceMul, reduceEqDiff, reduceLeDiff, Nat.reduceLT, reduceLE, reduceLT, reduceEq, reduceNe, BpN, Bs]
   repeat' (first | ((first | refine r_casesD (fun hp hb => ?_) (fun hp hb => ?_) | refine r_casesN (fun hp hb => ?_) (fun hp hb => ?_) | refine r_casesM (fun hp hb => ?_) (fun hp hb => ?_) | refine r_casesB (fun hp hb => ?_) (fun hp hb => ?_) | refine r_gcasesD (fun hp hb => ?_) (fun hp hb => ?_) | refine r_gcasesN (fun hp hb => ?_) (fun hp hb => ?_) | refine r_gcasesM (fun hp hb => ?_) (fun hp hb => ?_) | refine r_gcasesB (fun hp hb => ?_) (fun hp hb => ?_)) <;> simp only [↓wt, wz, reduceAdd, reduceMul, reduceEqDiff, reduceLeDiff, Nat.reduceLT, reduceLE, reduceLT, reduceEq, reduceNe, hb]) | ((with_reducible refine And.intro ?_ ?_); omega) | fail)
   · have hkl : k < ns.length := by omega
     simp only [↓wt, wz, reduceAdd, reduceMul, reduceEqDiff, reduceLeDiff, Nat.reduceLT, reduceLE, reduceLT, reduceEq, reduceNe, elem_I, uNat_eq]
     repeat (refine And.intro (by omega) ?_)
     refine icall_drop [] (nput_call (l ++ encN (ns.take k)) (uNat (ns.getD k 0)) (by rw [List.length_append]; omega) (uNat_lt _)).frz ⟨arg_l (pureB _), arg_c, trivial⟩ under_B ?_
     simp only [↓wt, wz, reduceAdd, reduceMul, reduceEqDiff, reduceLeDiff, Nat.reduceLT, reduceLE, reduceLT, reduceEq, reduceNe, e3, Bs, Cell]
     refine ⟨k + 1, by omega, by omega, ?_⟩
     simp only [↓wt, wz, wkf, reduceAdd, reduceMul, reduceEqDiff, reduceLeDiff, Nat.reduceLT, reduceLE, reduceLT, reduceEq, reduceNe, Bs, e3, underL_I, takeI_snoc, hkl, List.append_assoc]
     try trivial
   · have hk2 : k = ns.length := by omega
     subst hk2
     simp only [↓wt, wz, reduceAdd, reduceMul, reduceEqDiff, reduceLeDiff, Nat.reduceLT, reduceLE, reduceLT, reduceEq, reduceNe, Bs, List.take_length, Tryz.results31]
     try exact ⟨rfl, rfl⟩
theorem bkput1_lend {M : Mem} {K : AV → Mem → Prop} (a d : Nat) (l : List UInt8) (ns : List Int) {n : Nat} (hs : n = ns.length) (hn : [a, d].Nodup) (ha : M.get a = some ⟨24, 1, [Bs l]⟩) (hd : M.get d = some ⟨2, 1, ns.map encI⟩) (hl : l.length + 10 * ns.length ≤ 1000000000)
 (hK : K (.t []) ⟨putAll (rnI [a, d] M.k) (M.without [a, d]).l (BpN (l ++ encN ns) ns).l, M.k⟩) : ICall Tryz.prog 31 [.s d 0 n, .p a 0 0 1] M K := by
 subst hs
 refine icall_lend [a, d] [⟨24, 1, [Bs l]⟩, ⟨2, 1, ns.map encI⟩] (bkput1_call l ns hl) hn ⟨⟨ha, ?_⟩, ⟨?_, hd_I⟩, trivial⟩ ⟨.inl ⟨rfl, show 1 < 2 by decide⟩, .inl ⟨rfl, show 0 < 2 by decide⟩, trivial⟩ (fun v hv => by simp at hv) ⟨?_, hd_I, trivial⟩ hK
 · intro x hx
   rw [List.mem_singleton.1 hx]
   exact .l _ _ (pureB _)
 · rw [hd]
   show some (Blk.mk _ 1 (ns.map encI)) = some ⟨_, 1, (ns.map encI).map (rnE (rnI [a, d] M.k))⟩
   rw [rn_I]
 · intro x hx
   rw [List.mem_singleton.1 hx]
   exact .l _ _ (pureB _)
def BpO (l : List UInt8) (ns : List Int) : Mem := ⟨[(0, ⟨24, 1, [.s 2 0 l.length]⟩), (1, ⟨2, 1, ns.map encI⟩), (2, ⟨5, 1, l.map encB⟩)], 3⟩
def BpQ (l : List UInt8) (ns : List Int) (k : Nat) : Mem := if k < ns.length then BpN (l ++ encN (ns.take k)) ns else BpO (l ++ encN ns) ns
theorem bpQ_lt {l : List UInt8} {ns : List Int} {k : Nat} (h : k < ns.length) : BpQ l ns k = BpN (l ++ encN (ns.take k)) ns := if_pos h
theorem bpQ_ge {l : List UInt8} {ns : List Int} {k : Nat} (h : ¬ k < ns.length) : BpQ l ns k = BpO (l ++ encN ns) ns := if_neg h
theorem bpQ_k {l : List UInt8} {ns : List Int} {k : Nat} : 2 ≤ (BpQ l ns k).k := by
 unfold BpQ; split
 · exact Nat.le_refl _
 · exact (by decide : 2 ≤ 3)
set_option maxHeartbeats 2000000 in
theorem bkput1_own (l : List UInt8) (ns : List Int) (h0 : 0 < ns.length) (hl : l.length + 10 * ns.length ≤ 1000000000) : ICall Tryz.prog 31 [.s 1 0 ns.length, .p 0 0 0 1] (BpN l ns) (fun a M' => a = .t [] ∧ M' = BpO (l ++ encN ns) ns) := by
 refine icall_body tabOk Tryz.func31 rfl rfl (by rw [Tryz.ntmps31]; simp) (aw_sound tabOk _ _ _ ?_)
 simp only [Tryz.ntmps31, BpN, Bs]
 simp only [↓wt, wz, reduceAdd, reduceMul, reduceEqDiff, reduceLeDiff, Nat.reduceLT, reduceLE, reduceLT, reduceEq, reduceNe]
 refine loop_ruleG tabOk [1, 5, 6] (fun k : Nat => [(7, .c (.int .i64 k))]) (fun k => BpQ l ns k) (fun k => k ≤ ns.length) (fun k => ns.length - k) 0 (by omega) (fun _ => bpQ_k) ?_ ?_
 · simp only [↓wt, wz, wkf, reduceAdd, reduceMul, reduceEqDiff, reduceLeDiff, Nat.reduceLT, reduceLE, reduceLT, reduceEq, reduceNe, bpQ_lt, h0, BpN, Bs, encN, List.take_zero, List.append_nil]
   try trivial
 · intro k h1
   have e3 := wi_succ (k := k) (by omega)
   have h2 := encNI_len (l := ns) (k := k)
   by_cases hkl : k < ns.length
   · simp only [↓wt, wz, reduceAdd, reduceMul, reduceEqDiff, reduceLeDiff, Nat.reduceLT, reduceLE, reduceLT, reduceEq, reduceNe, bpQ_lt, hkl, BpN, Bs]
     repeat' (first | ((first | refine r_casesD (fun hp hb => ?_) (fun hp hb => ?_) | refine r_casesN (fun hp hb => ?_) (fun hp hb => ?_) | refine r_casesM (fun hp hb => ?_) (fun hp hb => ?_) | refine r_casesB (fun hp hb => ?_) (fun hp hb => ?_) | refine r_gcasesD (fun hp hb => ?_) (fun hp hb => ?_) | refine r_gcasesN (fun hp hb => ?_) (fun hp hb => ?_) | refine r_gcasesM (fun hp hb => ?_) (fun hp hb => ?_) | refine r_gcasesB (fun hp hb => ?_) (fun hp hb => ?_)) <;> simp only [↓wt, wz, reduceAdd, reduceMul, reduceEqDiff, reduceLeDiff, Nat.reduceLT, reduceLE, reduceLT, reduceEq, reduceNe, hb]) | ((with_reducible refine And.intro ?_ ?_); omega) | fail)
     · simp only [↓wt, wz, reduceAdd, reduceMul, reduceEqDiff, reduceLeDiff, Nat.reduceLT, reduceLE, reduceLT, reduceEq, reduceNe, elem_I, uNat_eq]
       repeat (refine And.intro (by omega) ?_)
       by_cases hk1 : k + 1 < ns.length
       · refine icall_drop [] (nput_call (l ++ encN (ns.take k)) (uNat (ns.getD k 0)) (by rw [List.length_append]; omega) (uNat_lt _)).frz ⟨arg_l (pureB _), arg_c, trivial⟩ under_B ?_
         simp only [↓wt, wz, reduceAdd, reduceMul, reduceEqDiff, reduceLeDiff, Nat.reduceLT, reduceLE, reduceLT, reduceEq, reduceNe, e3, Bs, Cell]
         refine ⟨k + 1, by omega, by omega, ?_⟩
         simp only [↓wt, wz, wkf, reduceAdd, reduceMul, reduceEqDiff, reduceLeDiff, Nat.reduceLT, reduceLE, reduceLT, reduceEq, reduceNe, bpQ_lt, hk1, BpN, Bs, e3, underL_I, takeI_snoc, hkl, List.append_assoc]
         try trivial
       · have hkk : k + 1 = ns.length := by omega
         have hnb := nput_call (l ++ encN (ns.take k)) (uNat (ns.getD k 0)) (by rw [List.length_append]; omega) (uNat_lt _)
         have hall : l ++ encN (ns.take k) ++ putL (uNat (ns.getD k 0)) = l ++ encN ns := by
          rw [List.append_assoc, ← takeI_snoc hkl, hkk, List.take_length]
         rw [hall] at hnb
         refine icall_drop [] hnb ⟨arg_l (pureB _), arg_c, trivial⟩ (pureB _) ?_
         simp only [↓wt, wz, reduceAdd, reduceMul, reduceEqDiff, reduceLeDiff, Nat.reduceLT, reduceLE, reduceLT, reduceEq, reduceNe, e3, Bs, Cell]
         refine ⟨k + 1, by omega, by omega, ?_⟩
         have q2 := bpQ_ge (l := l) hk1
         simp only [↓wt, wz, wkf, reduceAdd, reduceMul, reduceEqDiff, reduceLeDiff, Nat.reduceLT, reduceLE, reduceLT, reduceEq, reduceNe, q2, BpO, Bs, e3, underL_I, List.append_assoc]
         try trivial
     · exfalso; omega
   · have hk2 : k = ns.length := by omega
     subst hk2
     have q2 := bpQ_ge (l := l) hkl
     simp only [↓wt, wz, reduceAdd, reduceMul, reduceEqDiff, reduceLeDiff, Nat.reduceLT, reduceLE, reduceLT, reduceEq, reduceNe, q2, BpO, Bs]
     repeat' (first | ((first | refine r_casesD (fun hp hb => ?_) (fun hp hb => ?_) | refine r_casesN (fun hp hb => ?_) (fun hp hb => ?_) | refine r_casesM (fun hp hb => ?_) (fun hp hb => ?_) | refine r_casesB (fun hp hb => ?_) (fun hp hb => ?_) | refine r_gcasesD (fun hp hb => ?_) (fun hp hb => ?_) | refine r_gcasesN (fun hp hb => ?_) (fun hp hb => ?_) | refine r_gcasesM (fun hp hb => ?_) (fun hp hb => ?_) | refine r_gcasesB (fun hp hb => ?_) (fun hp hb => ?_)) <;> simp only [↓wt, wz, reduceAdd, reduceMul, reduceEqDiff, reduceLeDiff, Nat.reduceLT, reduceLE, reduceLT, reduceEq, reduceNe, hb]) | ((with_reducible refine And.intro ?_ ?_); omega) | fail)
     · exfalso; omega
     · simp only [↓wt, wz, reduceAdd, reduceMul, reduceEqDiff, reduceLeDiff, Nat.reduceLT, reduceLE, reduceLT, reduceEq, reduceNe, Bs, List.take_length, Tryz.results31]
       try exact ⟨rfl, rfl⟩
theorem bkput1_olend {M : Mem} {K : AV → Mem → Prop} (a d : Nat) (l : List UInt8) (ns : List Int) {n : Nat} (h0 : 0 < ns.length) (hs : n = ns.length) (hn : [a, d].Nodup) (ha : M.get a = some ⟨24, 1, [Bs l]⟩) (hd : M.get d = some ⟨2, 1, ns.map encI⟩) (hl : l.length + 10 * ns.length ≤ 1000000000)
 (hK : K (.t []) ⟨putAll (rnI [a, d] M.k) (M.without [a, d]).l (BpO (l ++ encN ns) ns).l, M.k + 1⟩) : ICall Tryz.prog 31 [.s d 0 n, .p a 0 0 1] M K := by
 subst hs
 refine icall_lend [a, d] [⟨24, 1, [Bs l]⟩, ⟨2, 1, ns.map encI⟩] (bkput1_own l ns h0 hl) hn ⟨⟨ha, ?_⟩, ⟨?_, hd_I⟩, trivial⟩ ⟨.inl ⟨rfl, show 1 < 2 by decide⟩, .inl ⟨rfl, show 0 < 2 by decide⟩, trivial⟩ (fun v hv => by simp at hv) ⟨?_, hd_I, hd_B, trivial⟩ hK
 · intro x hx
   rw [List.mem_singleton.1 hx]
   exact .l _ _ (pureB _)
 · rw [hd]
   show some (Blk.mk _ 1 (ns.map encI)) = some ⟨_, 1, (ns.map encI).map (rnE (rnI [a, d] M.k))⟩
   rw [rn_I]
 · intro x hx
   rw [List.mem_singleton.1 hx]
   exact show 2 < 3 by decide
theorem bkflag_call (b : Bool) : PCall Tryz.prog 35 [.c (.bool b)] (.c (.int .i64 (if b = true then 1 else 0))) := by
 refine pcall_body tabOk Tryz.func35 rfl rfl (by rw [Tryz.ntmps35]; simp) ?_
 simp only [Tryz.ntmps35]
 cases b
 · simp only [↓wt, wz, reduceAdd, reduceMul, reduceEqDiff, reduceLeDiff, Nat.reduceLT, reduceLE, reduceLT, reduceEq, reduceNe, Tryz.results35]
   exact exp_c
 · simp only [↓wt, wz, reduceAdd, reduceMul, reduceEqDiff, reduceLeDiff, Nat.reduceLT, reduceLE, reduceLT, reduceEq, reduceNe, Tryz.results35]
   exact exp_c
theorem bkat_call (l : List Int) (i : Nat) (hl : l.length ≤ 1000000000) : PCall Tryz.prog 36 [.l 1 (l.map encI), .c (.int .i64 i)] (.c (.int .i64 (l.getD i 0))) := by
 refine pcall_body tabOk Tryz.func36 rfl rfl (by rw [Tryz.ntmps36]; simp) ?_
 simp only [Tryz.ntmps36]
 simp only [↓wt, wz, reduceAdd, reduceMul, reduceEqDiff, reduceLeDiff, Nat.reduceLT, reduceLE, reduceLT, reduceEq, reduceNe]
 repeat' (first | ((first | refine r_casesD (fun hp hb => ?_) (fun hp hb => ?_) | refine r_casesN (fun hp hb => ?_) (fun hp hb => ?_) | refine r_casesM (fun hp hb => ?_) (fun hp hb => ?_) | refine r_casesB (fun hp hb => ?_) (fun hp hb => ?_) | refine r_gcasesD (fun hp hb => ?_) (fun hp hb => ?_) | refine r_gcasesN (fun hp hb => ?_) (fun hp hb => ?_) | refine r_gcasesM (fun hp hb => ?_) (fun hp hb => ?_) | refine r_gcasesB (fun hp hb => ?_) (fun hp hb => ?_)) <;> simp only [↓wt, wz, reduceAdd, reduceMul, reduceEqDiff, reduceLeDiff, Nat.reduceLT, reduceLE, reduceLT, reduceEq, reduceNe, hb]) | ((with_reducible refine And.intro ?_ ?_); omega) | fail)
 · have hil : i < l.length := by omega
   simp only [↓wt, wz, reduceAdd, reduceMul, reduceEqDiff, reduceLeDiff, Nat.reduceLT, reduceLE, reduceLT, reduceEq, reduceNe, elem_I, Tryz.results36]
   repeat (refine And.intro (by omega) ?_)
   exact exp_c
 · simp only [↓wt, wz, reduceAdd, reduceMul, reduceEqDiff, reduceLeDiff, Nat.reduceLT, reduceLE, reduceLT, reduceEq, reduceNe, Tryz.results36]
   rw [show l.getD i 0 = 0 by rw [List.getD_eq_getElem?_getD, List.getElem?_eq_none (by omega)]; rfl]
   exact exp_c
theorem bknone_call (a : AudD) (h : LenA a) : PCall Tryz.prog 34 [AudV a] (.c (.bool (decide (NoneA a)))) := by
 obtain ⟨h1, h2, h3⟩ := h
 have e1 : IntKind.i64.wrap ((a.told.length : Int) + a.use.length) = (a.told.length : Int) + a.use.length := wrap_i64 (by omega) (by omega)
 have e2 : IntKind.i64.wrap ((a.told.length : Int) + a.use.length + a.inc.length) = (a.told.length : Int) + a.use.length + a.inc.length := wrap_i64 (by omega) (by omega)
 refine pcall_body tabOk Tryz.func34 rfl rfl (by rw [Tryz.ntmps34]; simp) ?_
 simp only [Tryz.ntmps34, AudV]
 simp only [↓wt, wz, reduceAdd, reduceMul, reduceEqDiff, reduceLeDiff, Nat.reduceLT, reduceLE, reduceLT, reduceEq, reduceNe, look_eql, e1, e2]
 repeat' (first | ((first | refine r_casesD (fun hp hb => ?_) (fun hp hb => ?_) | refine r_casesN (fun hp hb => ?_) (fun hp hb => ?_) | refine r_casesM (fun hp hb => ?_) (fun hp hb => ?_) | refine r_casesB (fun hp hb => ?_) (fun hp hb => ?_) | refine r_gcasesD (fun hp hb => ?_) (fun hp hb => ?_) | refine r_gcasesN (fun hp hb => ?_) (fun hp hb => ?_) | refine r_gcasesM (fun hp hb => ?_) (fun hp hb => ?_) | refine r_gcasesB (fun hp hb => ?_) (fun hp hb => ?_)) <;> simp only [↓wt, wz, reduceAdd, reduceMul, reduceEqDiff, reduceLeDiff, Nat.reduceLT, reduceLE, reduceLT, reduceEq, reduceNe, look_eql, e1, e2, Tryz.results34, hb]) | ((with_reducible refine And.intro ?_ ?_); omega) | fail)
 · cases hm : a.mv
   · exact exp_bw (decide_eq_true (p := NoneA a) ⟨by assumption, by omega, by omega, by omega, hm⟩).symm
   · exact exp_bw (decide_eq_false (p := NoneA a) fun h => by have := h.2.2.2.2; rw [hm] at this; cases this).symm
 all_goals exact exp_bF (p := NoneA a) fun h => by obtain ⟨g1, g2, g3, g4, g5⟩ := h; first | omega | contradiction
end Go.Ab
namespace Go.Ab
open Go Go.Proofs Go.RowKit
def PkB (k : BookD) : Blk := ⟨37, 12, [.g [.c (.int .i64 k.ck), .l 3 (k.r.map RowV), .l 3 (k.l.map ReqA), .l 3 (k.o.map OutA), .c (.int .i64 k.k), .l 7 (k.n.map NoteV), .c (.int .i64 k.a.y), .c (.int .i64 k.a.p), .l 1 (k.a.told.map encO), .l 1 (k.a.use.map encI), .l 1 (k.a.inc.map encI), .c (.bool k.a.mv)]]⟩
def PkM (k : BookD) (b : List UInt8) (n : Nat) : Mem := ⟨[(0, PkB k), (1, ⟨24, 1, [Bs b]⟩)], n⟩
def PkA (k : BookD) (b : List UInt8) (n : Nat) : Mem := ⟨[(1, ⟨24, 1, [Bs b]⟩), (6, ⟨35, 6, [.g [.c (.int .i64 k.a.y), .c (.int .i64 k.a.p), .l 1 (k.a.told.map encO), .l 1 (k.a.use.map encI), .l 1 (k.a.inc.map encI), .c (.bool k.a.mv)]]⟩)], n⟩
theorem under_bput {n : FuncId} {m : Nat} (h : 1 < m) : Under m (.f n [.p 1 0 0 1]) := under_f.mpr fun a ha => by
 rw [List.mem_singleton.1 ha]; exact .p _ _ _ _ h
set_option maxHeartbeats 16000000 in
theorem bkput_call (k : BookD) (h : SmallK k) : PCall Tryz.prog 11 [BookV k] (Bs (encBk k)) := by
 refine pcall_body tabOk Tryz.func11 rfl rfl (by rw [Tryz.ntmps11]; simp) ?_
 simp only [Tryz.ntmps11, BookV]
 obtain ⟨s1, s2, s3, s4, s5, s6, s7, s8⟩ := id h
 have n1 := encN_len [k.ck]
 have n2 := st1_len k h
 simp only [List.length_cons, List.length_nil] at n1
 have m2 := pput_call (encN [k.ck]) k.r (by omega) s2
 rw [show encN [k.ck] ++ encN (numsB k.r) = st1 k from rfl] at m2
 obtain ⟨b0, hb0⟩ : ∃ b, b = encN [k.ck] := ⟨_, rfl⟩
 rw [← hb0] at m2 n1
 simp only [↓wt, wz, reduceAdd, reduceMul, reduceEqDiff, reduceLeDiff, Nat.reduceLT, reduceLE, reduceLT, reduceEq, reduceNe]
 refine icall_see 1 24 1 1 rfl ?_
 simp only [↓wt, wz, reduceAdd, reduceMul, reduceEqDiff, reduceLeDiff, Nat.reduceLT, reduceLE, reduceLT, reduceEq, reduceNe]
 refine bkput1_lend 1 2 [] [k.ck] rfl (by decide) rfl rfl (by simp) ?_
 simp only [↓wt, wz, reduceAdd, reduceMul, reduceEqDiff, reduceLeDiff, Nat.reduceLT, reduceLE, reduceLT, reduceEq, reduceNe, BpN, Bs, rnI, nblt, rn0, rnC, rnE, rnR, rnB, putAll, Nat.reduceSub, Nat.sub_zero, Nat.not_lt_zero, Nat.zero_sub, Nat.sub_self, rn_I, rn_B]
 simp only [← hb0]
 refine icall_drop [] m2 ⟨arg_l (pureB _), arg_books, trivial⟩ okR_Bs ?_
 simp only [↓wt, wz, reduceAdd, reduceMul, reduceEqDiff, reduceLeDiff, Nat.reduceLT, reduceLE, reduceLT, reduceEq, reduceNe, Bs, Cell]
 refine bkput1_lend 1 3 (st1 k) [(k.l.length : Int)] rfl (by decide) rfl rfl (by simp; omega) ?_
 simp only [↓wt, wz, reduceAdd, reduceMul, reduceEqDiff, reduceLeDiff, Nat.reduceLT, reduceLE, reduceLT, reduceEq, reduceNe, BpN, Bs, rnI, nblt, rn0, rnC, rnE, rnR, rnB, putAll, Nat.reduceSub, Nat.sub_zero, Nat.not_lt_zero, Nat.zero_sub, Nat.sub_self, rn_I, rn_B]
 have hla : LenA k.a := ⟨by omega, by omega, by omega⟩
 have q2 : st1 k ++ encN [(k.l.length : Int)] = st2 k 0 := by simp [st2, lineL, encN]
 have q3 : st2 k k.l.length ++ encN [(k.o.length : Int)] = st3 k 0 := by simp [st3, outsL, encN]
 have q4 : st3 k k.o.length ++ encN [k.k] = st4 k 0 := by simp [st4, notesL, encN]
 have q5 : st4 k k.n.length ++ encN [k.a.y, k.a.p] = st5 k := rfl
 have q6 : st6 k 0 = st5 k := by simp [st6, triL, encN]
 simp only [q2]
 refine loop_ruleG tabOk [1, 3, 4, 31, 32] (fun i : Nat => [(33, .c (.int .i64 i))]) (fun i => PkM k (st2 k i) 4) (fun i => i ≤ k.l.length) (fun i => k.l.length - i) 0 (by omega) (fun _ => Nat.le_refl _) ?_ ?_
 · simp only [↓wt, wz, wkf, reduceAdd, reduceMul, reduceEqDiff, reduceLeDiff, Nat.reduceLT, reduceLE, reduceLT, reduceEq, reduceNe, PkM, PkB, Bs, underL_R, underL_Q, underL_U, underL_N, underL_O, underL_I]
   exact under_bput (Nat.lt_of_sub_pos (by decide))
 · intro i hi
   have e3 := wi_succ (k := i) (by omega)
   have n4 := st2_len k h i
   simp only [↓wt, wz, reduceAdd, reduceMul, reduceEqDiff, reduceLeDiff, Nat.reduceLT, reduceLE, reduceLT, reduceEq, reduceNe, PkM, PkB, Bs]
   repeat' (first | ((first | refine r_casesD (fun hp hb => ?_) (fun hp hb => ?_) | refine r_casesN (fun hp hb => ?_) (fun hp hb => ?_) | refine r_casesM (fun hp hb => ?_) (fun hp hb => ?_) | refine r_casesB (fun hp hb => ?_) (fun hp hb => ?_) | refine r_gcasesD (fun hp hb => ?_) (fun hp hb => ?_) | refine r_gcasesN (fun hp hb => ?_) (fun hp hb => ?_) | refine r_gcasesM (fun hp hb => ?_) (fun hp hb => ?_) | refine r_gcasesB (fun hp hb => ?_) (fun hp hb => ?_)) <;> simp only [↓wt, wz, reduceAdd, reduceMul, reduceEqDiff, reduceLeDiff, Nat.reduceLT, reduceLE, reduceLT, reduceEq, reduceNe, hb]) | ((with_reducible refine And.intro ?_ ?_); omega) | fail)
   · have hil : i < k.l.length := by omega
     simp only [↓wt, wz, reduceAdd, reduceMul, reduceEqDiff, reduceLeDiff, Nat.reduceLT, reduceLE, reduceLT, reduceEq, reduceNe, elem_Q, ReqA_eq]
     repeat (refine And.intro (by omega) ?_)
     refine bkput1_lend 1 5 (st2 k i) [(reqAt k.l i).t, (reqAt k.l i).a] rfl (by decide) rfl rfl (by simp; omega) ?_
     simp only [↓wt, wz, reduceAdd, reduceMul, reduceEqDiff, reduceLeDiff, Nat.reduceLT, reduceLE, reduceLT, reduceEq, reduceNe, BpN, Bs, e3, rnI, nblt, rn0, rnC, rnE, rnR, rnB, putAll, Nat.reduceSub, Nat.sub_zero, Nat.not_lt_zero, Nat.zero_sub, Nat.sub_self, rn_I, rn_B]
     refine ⟨i + 1, by omega, by omega, ?_⟩
     have q : st2 k (i + 1) = st2 k i ++ encN [(reqAt k.l i).t, (reqAt k.l i).a] := st2_succ (k := k) hil
     simp only [↓wt, wz, wkf, reduceAdd, reduceMul, reduceEqDiff, reduceLeDiff, Nat.reduceLT, reduceLE, reduceLT, reduceEq, reduceNe, Bs, e3, underL_R, underL_Q, underL_U, underL_N, underL_O, underL_I, q]
     exact under_bput (Nat.lt_of_sub_pos (by decide))
   · have hi2 : i = k.l.length := by omega
     subst hi2
     refine bkput1_lend 1 4 (st2 k k.l.length) [(k.o.length : Int)] rfl (by decide) rfl rfl (by simp; omega) ?_
     simp only [↓wt, wz, reduceAdd, reduceMul, reduceEqDiff, reduceLeDiff, Nat.reduceLT, reduceLE, reduceLT, reduceEq, reduceNe, BpN, Bs, rnI, nblt, rn0, rnC, rnE, rnR, rnB, putAll, Nat.reduceSub, Nat.sub_zero, Nat.not_lt_zero, Nat.zero_sub, Nat.sub_self, rn_I, rn_B]
     simp only [q3]
     refine loop_ruleG tabOk [1, 3, 4, 53, 54] (fun i : Nat => [(55, .c (.int .i64 i))]) (fun i => PkM k (st3 k i) 5) (fun i => i ≤ k.o.length) (fun i => k.o.length - i) 0 (by omega) (fun _ => Nat.le_refl _) ?_ ?_
     · simp only [↓wt, wz, wkf, reduceAdd, reduceMul, reduceEqDiff, reduceLeDiff, Nat.reduceLT, reduceLE, reduceLT, reduceEq, reduceNe, PkM, PkB, Bs, underL_R, underL_Q, underL_U, underL_N, underL_O, underL_I]
       exact under_bput (Nat.lt_of_sub_pos (by decide))
     · intro i hi
       have e3 := wi_succ (k := i) (by omega)
       have n4 := st3_len k h i
       simp only [↓wt, wz, reduceAdd, reduceMul, reduceEqDiff, reduceLeDiff, Nat.reduceLT, reduceLE, reduceLT, reduceEq, reduceNe, PkM, PkB, Bs]
       repeat' (first | ((first | refine r_casesD (fun hp hb => ?_) (fun hp hb => ?_) | refine r_casesN (fun hp hb => ?_) (fun hp hb => ?_) | refine r_casesM (fun hp hb => ?_) (fun hp hb => ?_) | refine r_casesB (fun hp hb => ?_) (fun hp hb => ?_) | refine r_gcasesD (fun hp hb => ?_) (fun hp hb => ?_) | refine r_gcasesN (fun hp hb => ?_) (fun hp hb => ?_) | refine r_gcasesM (fun hp hb => ?_) (fun hp hb => ?_) | refine r_gcasesB (fun hp hb => ?_) (fun hp hb => ?_)) <;> simp only [↓wt, wz, reduceAdd, reduceMul, reduceEqDiff, reduceLeDiff, Nat.reduceLT, reduceLE, reduceLT, reduceEq, reduceNe, hb]) | ((with_reducible refine And.intro ?_ ?_); omega) | fail)
       · have hil : i < k.o.length := by omega
         simp only [↓wt, wz, reduceAdd, reduceMul, reduceEqDiff, reduceLeDiff, Nat.reduceLT, reduceLE, reduceLT, reduceEq, reduceNe, elem_U, OutA_eq]
         repeat (refine And.intro (by omega) ?_)
         refine bkput1_lend 1 6 (st3 k i) [(outAt k.o i).t, (outAt k.o i).c] rfl (by decide) rfl rfl (by simp; omega) ?_
         simp only [↓wt, wz, reduceAdd, reduceMul, reduceEqDiff, reduceLeDiff, Nat.reduceLT, reduceLE, reduceLT, reduceEq, reduceNe, BpN, Bs, e3, rnI, nblt, rn0, rnC, rnE, rnR, rnB, putAll, Nat.reduceSub, Nat.sub_zero, Nat.not_lt_zero, Nat.zero_sub, Nat.sub_self, rn_I, rn_B]
         refine ⟨i + 1, by omega, by omega, ?_⟩
         have q : st3 k (i + 1) = st3 k i ++ encN [(outAt k.o i).t, (outAt k.o i).c] := st3_succ (k := k) hil
         simp only [↓wt, wz, wkf, reduceAdd, reduceMul, reduceEqDiff, reduceLeDiff, Nat.reduceLT, reduceLE, reduceLT, reduceEq, reduceNe, Bs, e3, underL_R, underL_Q, underL_U, underL_N, underL_O, underL_I, q]
         exact under_bput (Nat.lt_of_sub_pos (by decide))
       · have hi2 : i = k.o.length := by omega
         subst hi2
         refine bkput1_lend 1 5 (st3 k k.o.length) [k.k] rfl (by decide) rfl rfl (by simp; omega) ?_
         simp only [↓wt, wz, reduceAdd, reduceMul, reduceEqDiff, reduceLeDiff, Nat.reduceLT, reduceLE, reduceLT, reduceEq, reduceNe, BpN, Bs, rnI, nblt, rn0, rnC, rnE, rnR, rnB, putAll, Nat.reduceSub, Nat.sub_zero, Nat.not_lt_zero, Nat.zero_sub, Nat.sub_self, rn_I, rn_B]
         simp only [q4]
         refine loop_ruleG tabOk [1, 3, 4, 74, 75] (fun i : Nat => [(76, .c (.int .i64 i))]) (fun i => PkM k (st4 k i) 6) (fun i => i ≤ k.n.length) (fun i => k.n.length - i) 0 (by omega) (fun _ => Nat.le_refl _) ?_ ?_
         · simp only [↓wt, wz, wkf, reduceAdd, reduceMul, reduceEqDiff, reduceLeDiff, Nat.reduceLT, reduceLE, reduceLT, reduceEq, reduceNe, PkM, PkB, Bs, underL_R, underL_Q, underL_U, underL_N, underL_O, underL_I]
           exact under_bput (Nat.lt_of_sub_pos (by decide))
         · intro i hi
           have e3 := wi_succ (k := i) (by omega)
           have n4 := st4_len k h i
           simp only [↓wt, wz, reduceAdd, reduceMul, reduceEqDiff, reduceLeDiff, Nat.reduceLT, reduceLE, reduceLT, reduceEq, reduceNe, PkM, PkB, Bs]
           repeat' (first | ((first | refine r_casesD (fun hp hb => ?_) (fun hp hb => ?_) | refine r_casesN (fun hp hb => ?_) (fun hp hb => ?_) | refine r_casesM (fun hp hb => ?_) (fun hp hb => ?_) | refine r_casesB (fun hp hb => ?_) (fun hp hb => ?_) | refine r_gcasesD (fun hp hb => ?_) (fun hp hb => ?_) | refine r_gcasesN (fun hp hb => ?_) (fun hp hb => ?_) | refine r_gcasesM (fun hp hb => ?_) (fun hp hb => ?_) | refine r_gcasesB (fun hp hb => ?_) (fun hp hb => ?_)) <;> simp only [↓wt, wz, reduceAdd, reduceMul, reduceEqDiff, reduceLeDiff, Nat.reduceLT, reduceLE, reduceLT, reduceEq, reduceNe, hb]) | ((with_reducible refine And.intro ?_ ?_); omega) | fail)
           · have hil : i < k.n.length := by omega
             simp only [↓wt, wz, reduceAdd, reduceMul, reduceEqDiff, reduceLeDiff, Nat.reduceLT, reduceLE, reduceLT, reduceEq, reduceNe, elem_N, NoteV_eq]
             repeat (refine And.intro (by omega) ?_)
             refine bkput1_lend 1 7 (st4 k i) [(noteAt k.n i).ck, (noteAt k.n i).t, (noteAt k.n i).w, (noteAt k.n i).a, (noteAt k.n i).k, (noteAt k.n i).y, (noteAt k.n i).p] rfl (by decide) rfl rfl (by simp; omega) ?_
             simp only [↓wt, wz, reduceAdd, reduceMul, reduceEqDiff, reduceLeDiff, Nat.reduceLT, reduceLE, reduceLT, reduceEq, reduceNe, BpN, Bs, e3, rnI, nblt, rn0, rnC, rnE, rnR, rnB, putAll, Nat.reduceSub, Nat.sub_zero, Nat.not_lt_zero, Nat.zero_sub, Nat.sub_self, rn_I, rn_B]
             refine ⟨i + 1, by omega, by omega, ?_⟩
             have q : st4 k (i + 1) = st4 k i ++ encN [(noteAt k.n i).ck, (noteAt k.n i).t, (noteAt k.n i).w, (noteAt k.n i).a, (noteAt k.n i).k, (noteAt k.n i).y, (noteAt k.n i).p] := st4_succ (k := k) hil
             simp only [↓wt, wz, wkf, reduceAdd, reduceMul, reduceEqDiff, reduceLeDiff, Nat.reduceLT, reduceLE, reduceLT, reduceEq, reduceNe, Bs, e3, underL_R, underL_Q, underL_U, underL_N, underL_O, underL_I, q]
             exact under_bput (Nat.lt_of_sub_pos (by decide))
           · have hi2 : i = k.n.length := by omega
             subst hi2
             refine bkput1_lend 1 7 (st4 k k.n.length) [k.a.y, k.a.p] rfl (by decide) rfl rfl (by simp; omega) ?_
             simp only [↓wt, wz, reduceAdd, reduceMul, reduceEqDiff, reduceLeDiff, Nat.reduceLT, reduceLE, reduceLT, reduceEq, reduceNe, BpN, Bs, rnI, nblt, rn0, rnC, rnE, rnR, rnB, putAll, Nat.reduceSub, Nat.sub_zero, Nat.not_lt_zero, Nat.zero_sub, Nat.sub_self, rn_I, rn_B]
             simp only [q5]
             refine icall_drop [] (bknone_call k.a hla) ⟨arg_aud, trivial⟩ (.c _) ?_
             have n5 := st5_len k h
             cases en : decide (NoneA k.a)
             rotate_left
             · simp only [↓wt, wz, reduceAdd, reduceMul, reduceEqDiff, reduceLeDiff, Nat.reduceLT, reduceLE, reduceLT, reduceEq, reduceNe, en, Bs, Tryz.results11]
               rw [st_none (of_decide_eq_true en)]
               exact exp_self (.l _ _ (pureB _))
             simp only [↓wt, wz, reduceAdd, reduceMul, reduceEqDiff, reduceLeDiff, Nat.reduceLT, reduceLE, reduceLT, reduceEq, reduceNe, en]
             have nn := of_decide_eq_false en
             simp only [← q6]
             refine loop_ruleG tabOk [3, 4, 11, 120, 121] (fun i : Nat => [(122, .c (.int .i64 i))]) (fun i => PkA k (st6 k i) 8) (fun i => i ≤ k.a.told.length) (fun i => k.a.told.length - i) 0 (by omega) (fun _ => Nat.le_refl _) ?_ ?_
             · simp only [↓wt, wz, wkf, reduceAdd, reduceMul, reduceEqDiff, reduceLeDiff, Nat.reduceLT, reduceLE, reduceLT, reduceEq, reduceNe, PkA, Bs, underL_O, underL_I]
               exact under_bput (Nat.lt_of_sub_pos (by decide))
             · intro i hi
               have e3 := wi_succ (k := i) (by omega)
               have n4 := st6_len k h i hi
               simp only [↓wt, wz, reduceAdd, reduceMul, reduceEqDiff, reduceLeDiff, Nat.reduceLT, reduceLE, reduceLT, reduceEq, reduceNe, PkA, Bs]
               repeat' (first | ((first | refine r_casesD (fun hp hb => ?_) (fun hp hb => ?_) | refine r_casesN (fun hp hb => ?_) (fun hp hb => ?_) | refine r_casesM (fun hp hb => ?_) (fun hp hb => ?_) | refine r_casesB (fun hp hb => ?_) (fun hp hb => ?_) | refine r_gcasesD (fun hp hb => ?_) (fun hp hb => ?_) | refine r_gcasesN (fun hp hb => ?_) (fun hp hb => ?_) | refine r_gcasesM (fun hp hb => ?_) (fun hp hb => ?_) | refine r_gcasesB (fun hp hb => ?_) (fun hp hb => ?_)) <;> simp only [↓wt, wz, reduceAdd, reduceMul, reduceEqDiff, reduceLeDiff, Nat.reduceLT, reduceLE, reduceLT, reduceEq, reduceNe, hb]) | ((with_reducible refine And.intro ?_ ?_); omega) | fail)
               · have hil : i < k.a.told.length := by omega
                 simp only [↓wt, wz, reduceAdd, reduceMul, reduceEqDiff, reduceLeDiff, Nat.reduceLT, reduceLE, reduceLT, reduceEq, reduceNe, elem_O]
                 repeat (refine And.intro (by omega) ?_)
                 refine draw_rule tabOk mixed [0, 0, 3, 0, 2, 0, 3, 0, 2, 0, 3, 1, 1] [[], [], [1], [], [3], [], [1, 2, 3, 4, 5], [], [7], [], [1, 2, 3, 4, 5, 6, 7, 8, 9], [1, 2, 3, 4, 5, 6, 7, 8, 9, 10], [0, 1, 2, 3, 4, 5, 6, 7, 8, 9, 10, 11]] (by kernel_rfl) ?_
                 simp only [↓wt, wz, reduceAdd, reduceMul, reduceEqDiff, reduceLeDiff, Nat.reduceLT, reduceLE, reduceLT, reduceEq, reduceNe]
                 refine d_pureC (r := .c (.int .i64 (flagI (k.a.told.getD i false)))) (fun M0 => icall_drop [] (bkflag_call _) ⟨arg_c, trivial⟩ (.c _) ⟨rfl, rfl⟩) ?_
                 simp only [↓wt, wz, reduceAdd, reduceMul, reduceEqDiff, reduceLeDiff, Nat.reduceLT, reduceLE, reduceLT, reduceEq, reduceNe]
                 refine d_pureC (r := .c (.int .i64 (k.a.use.getD i 0))) (fun M0 => icall_drop [] (bkat_call _ _ (by omega)) ⟨arg_l (pureI _), arg_c, trivial⟩ (.c _) ⟨rfl, rfl⟩) ?_
                 simp only [↓wt, wz, reduceAdd, reduceMul, reduceEqDiff, reduceLeDiff, Nat.reduceLT, reduceLE, reduceLT, reduceEq, reduceNe]
                 refine d_pureC (r := .c (.int .i64 (k.a.inc.getD i 0))) (fun M0 => icall_drop [] (bkat_call _ _ (by omega)) ⟨arg_l (pureI _), arg_c, trivial⟩ (.c _) ⟨rfl, rfl⟩) ?_
                 simp only [↓wt, wz, reduceAdd, reduceMul, reduceEqDiff, reduceLeDiff, Nat.reduceLT, reduceLE, reduceLT, reduceEq, reduceNe]
                 refine d_heavyX (by simp only [↓wt, wz, reduceAdd, reduceMul, reduceEqDiff, reduceLeDiff, Nat.reduceLT, reduceLE, reduceLT, reduceEq, reduceNe]; exact ⟨rfl, rfl⟩) ?_
                 simp only [↓wt, wz, reduceAdd, reduceMul, reduceEqDiff, reduceLeDiff, Nat.reduceLT, reduceLE, reduceLT, reduceEq, reduceNe]
                 refine d_heavyV (fn := 31) (caps := [.p 1 0 0 1]) (r := .t []) (M' := ⟨[(1, ⟨24, 1, [Bs (st6 k i ++ encN [flagI (k.a.told.getD i false), k.a.use.getD i 0, k.a.inc.getD i 0])]⟩), (6, ⟨35, 6, [.g [.c (.int .i64 k.a.y), .c (.int .i64 k.a.p), .l 1 (k.a.told.map encO), .l 1 (k.a.use.map encI), .l 1 (k.a.inc.map encI), .c (.bool k.a.mv)]]⟩), (8, ⟨2, 1, [flagI (k.a.told.getD i false), k.a.use.getD i 0, k.a.inc.getD i 0].map encI⟩)], 9⟩) ?_ ?_ ?_
                 · rfl
                 · show ICall Tryz.prog _ [.s 8 0 3, .p 1 0 0 1] _ _
                   refine bkput1_lend 1 8 (st6 k i) [flagI (k.a.told.getD i false), k.a.use.getD i 0, k.a.inc.getD i 0] rfl (by decide) rfl rfl (by simp; omega) ?_
                   simp only [↓wt, wz, reduceAdd, reduceMul, reduceEqDiff, reduceLeDiff, Nat.reduceLT, reduceLE, reduceLT, reduceEq, reduceNe, BpN, Bs, rnI, nblt, rn0, rnC, rnE, rnR, rnB, putAll, Nat.reduceSub, Nat.sub_zero, Nat.not_lt_zero, Nat.zero_sub, Nat.sub_self, rn_I, rn_B]
                 simp only [↓wt, wz, reduceAdd, reduceMul, reduceEqDiff, reduceLeDiff, Nat.reduceLT, reduceLE, reduceLT, reduceEq, reduceNe, Bs, e3]
                 refine ⟨i + 1, by omega, by omega, ?_⟩
                 have q := st6_succ (k := k) (i := i)
                 simp only [↓wt, wz, wkf, reduceAdd, reduceMul, reduceEqDiff, reduceLeDiff, Nat.reduceLT, reduceLE, reduceLT, reduceEq, reduceNe, Bs, e3, underL_O, underL_I, q]
                 exact under_bput (Nat.lt_of_sub_pos (by decide))
               · have hi2 : i = k.a.told.length := by omega
                 subst hi2
                 refine icall_drop [] (bkflag_call k.a.mv) ⟨arg_c, trivial⟩ (.c _) ?_
                 simp only [↓wt, wz, reduceAdd, reduceMul, reduceEqDiff, reduceLeDiff, Nat.reduceLT, reduceLE, reduceLT, reduceEq, reduceNe]
                 refine bkput1_lend 1 8 (st6 k k.a.told.length) [flagI k.a.mv] rfl (by decide) rfl rfl (by simp; omega) ?_
                 simp only [↓wt, wz, reduceAdd, reduceMul, reduceEqDiff, reduceLeDiff, Nat.reduceLT, reduceLE, reduceLT, reduceEq, reduceNe, BpN, Bs, Tryz.results11, rnI, nblt, rn0, rnC, rnE, rnR, rnB, putAll, Nat.reduceSub, Nat.sub_zero, Nat.not_lt_zero, Nat.zero_sub, Nat.sub_self, rn_I, rn_B]
                 rw [st_some nn]
                 exact exp_self (.l _ _ (pureB _))
end Go.Ab
namespace Go.Ab
open Go Go.Proofs Go.RowKit
set_option maxHeartbeats 16000000 in
theorem bkput_own (k : BookD) (h : SmallK k) (hna : NoneA k.a) : PCall Tryz.prog 11 [BookV k] (.o 5 1 ((encBk k).map encB)) := by
 refine pcall_body tabOk Tryz.func11 rfl rfl (by rw [Tryz.ntmps11]; simp) ?_
 simp only [Tryz.ntmps11, BookV]
 obtain ⟨s1, s2, s3, s4, s5, s6, s7, s8⟩ := id h
 have n1 := encN_len [k.ck]
 have n2 := st1_len k h
 simp only [List.length_cons, List.length_nil] at n1
 have m2 := pput_call (encN [k.ck]) k.r (by omega) s2
 rw [show encN [k.ck] ++ encN (numsB k.r) = st1 k from rfl] at m2
 obtain ⟨b0, hb0⟩ : ∃ b, b = encN [k.ck] := ⟨_, rfl⟩
 rw [← hb0] at m2 n1
 simp only [↓wt, wz, reduceAdd, reduceMul, reduceEqDiff, reduceLeDiff, Nat.reduceLT, reduceLE, reduceLT, reduceEq, reduceNe]
 refine icall_see 1 24 1 1 rfl ?_
 simp only [↓wt, wz, reduceAdd, reduceMul, reduceEqDiff, reduceLeDiff, Nat.reduceLT, reduceLE, reduceLT, reduceEq, reduceNe]
 refine bkput1_lend 1 2 [] [k.ck] rfl (by decide) rfl rfl (by simp) ?_
 simp only [↓wt, wz, reduceAdd, reduceMul, reduceEqDiff, reduceLeDiff, Nat.reduceLT, reduceLE, reduceLT, reduceEq, reduceNe, BpN, Bs, rnI, nblt, rn0, rnC, rnE, rnR, rnB, putAll, Nat.reduceSub, Nat.sub_zero, Nat.not_lt_zero, Nat.zero_sub, Nat.sub_self, rn_I, rn_B]
 simp only [← hb0]
 refine icall_drop [] m2 ⟨arg_l (pureB _), arg_books, trivial⟩ okR_Bs ?_
 simp only [↓wt, wz, reduceAdd, reduceMul, reduceEqDiff, reduceLeDiff, Nat.reduceLT, reduceLE, reduceLT, reduceEq, reduceNe, Bs, Cell]
 refine bkput1_lend 1 3 (st1 k) [(k.l.length : Int)] rfl (by decide) rfl rfl (by simp; omega) ?_
 simp only [↓wt, wz, reduceAdd, reduceMul, reduceEqDiff, reduceLeDiff, Nat.reduceLT, reduceLE, reduceLT, reduceEq, reduceNe, BpN, Bs, rnI, nblt, rn0, rnC, rnE, rnR, rnB, putAll, Nat.reduceSub, Nat.sub_zero, Nat.not_lt_zero, Nat.zero_sub, Nat.sub_self, rn_I, rn_B]
 have hla : LenA k.a := ⟨by omega, by omega, by omega⟩
 have q2 : st1 k ++ encN [(k.l.length : Int)] = st2 k 0 := by simp [st2, lineL, encN]
 have q3 : st2 k k.l.length ++ encN [(k.o.length : Int)] = st3 k 0 := by simp [st3, outsL, encN]
 have q4 : st3 k k.o.length ++ encN [k.k] = st4 k 0 := by simp [st4, notesL, encN]
 have q5 : st4 k k.n.length ++ encN [k.a.y, k.a.p] = st5 k := rfl
 have q6 : st6 k 0 = st5 k := by simp [st6, triL, encN]
 simp only [q2]
 refine loop_ruleG tabOk [1, 3, 4, 31, 32] (fun i : Nat => [(33, .c (.int .i64 i))]) (fun i => PkM k (st2 k i) 4) (fun i => i ≤ k.l.length) (fun i => k.l.length - i) 0 (by omega) (fun _ => Nat.le_refl _) ?_ ?_
 · simp only [↓wt, wz, wkf, reduceAdd, reduceMul, reduceEqDiff, reduceLeDiff, Nat.reduceLT, reduceLE, reduceLT, reduceEq, reduceNe, PkM, PkB, Bs, underL_R, underL_Q, underL_U, underL_N, underL_O, underL_I]
   exact under_bput (Nat.lt_of_sub_pos (by decide))
 · intro i hi
   have e3 := wi_succ (k := i) (by omega)
   have n4 := st2_len k h i
   simp only [↓wt, wz, reduceAdd, reduceMul, reduceEqDiff, reduceLeDiff, Nat.reduceLT, reduceLE, reduceLT, reduceEq, reduceNe, PkM, PkB, Bs]
   repeat' (first | ((first | refine r_casesD (fun hp hb => ?_) (fun hp hb => ?_) | refine r_casesN (fun hp hb => ?_) (fun hp hb => ?_) | refine r_casesM (fun hp hb => ?_) (fun hp hb => ?_) | refine r_casesB (fun hp hb => ?_) (fun hp hb => ?_) | refine r_gcasesD (fun hp hb => ?_) (fun hp hb => ?_) | refine r_gcasesN (fun hp hb => ?_) (fun hp hb => ?_) | refine r_gcasesM (fun hp hb => ?_) (fun hp hb => ?_) | refine r_gcasesB (fun hp hb => ?_) (fun hp hb => ?_)) <;> simp only [↓wt, wz, reduceAdd, reduceMul, reduceEqDiff, reduceLeDiff, Nat.reduceLT, reduceLE, reduceLT, reduceEq, reduceNe, hb]) | ((with_reducible refine And.intro ?_ ?_); omega) | fail)
   · have hil : i < k.l.length := by omega
     simp only [↓wt, wz, reduceAdd, reduceMul, reduceEqDiff, reduceLeDiff, Nat.reduceLT, reduceLE, reduceLT, reduceEq, reduceNe, elem_Q, ReqA_eq]
     repeat (refine And.intro (by omega) ?_)
     refine bkput1_lend 1 5 (st2 k i) [(reqAt k.l i).t, (reqAt k.l i).a] rfl (by decide) rfl rfl (by simp; omega) ?_
     simp only [↓wt, wz, reduceAdd, reduceMul, reduceEqDiff, reduceLeDiff, Nat.reduceLT, reduceLE, reduceLT, reduceEq, reduceNe, BpN, Bs, e3, rnI, nblt, rn0, rnC, rnE, rnR, rnB, putAll, Nat.reduceSub, Nat.sub_zero, Nat.not_lt_zero, Nat.zero_sub, Nat.sub_self, rn_I, rn_B]
     refine ⟨i + 1, by omega, by omega, ?_⟩
     have q : st2 k (i + 1) = st2 k i ++ encN [(reqAt k.l i).t, (reqAt k.l i).a] := st2_succ (k := k) hil
     simp only [↓wt, wz, wkf, reduceAdd, reduceMul, reduceEqDiff, reduceLeDiff, Nat.reduceLT, reduceLE, reduceLT, reduceEq, reduceNe, Bs, e3, underL_R, underL_Q, underL_U, underL_N, underL_O, underL_I, q]
     exact under_bput (Nat.lt_of_sub_pos (by decide))
   · have hi2 : i = k.l.length := by omega
     subst hi2
     refine bkput1_lend 1 4 (st2 k k.l.length) [(k.o.length : Int)] rfl (by decide) rfl rfl (by simp; omega) ?_
     simp only [↓wt, wz, reduceAdd, reduceMul, reduceEqDiff, reduceLeDiff, Nat.reduceLT, reduceLE, reduceLT, reduceEq, reduceNe, BpN, Bs, rnI, nblt, rn0, rnC, rnE, rnR, rnB, putAll, Nat.reduceSub, Nat.sub_zero, Nat.not_lt_zero, Nat.zero_sub, Nat.sub_self, rn_I, rn_B]
     simp only [q3]
     refine loop_ruleG tabOk [1, 3, 4, 53, 54] (fun i : Nat => [(55, .c (.int .i64 i))]) (fun i => PkM k (st3 k i) 5) (fun i => i ≤ k.o.length) (fun i => k.o.length - i) 0 (by omega) (fun _ => Nat.le_refl _) ?_ ?_
     · simp only [↓wt, wz, wkf, reduceAdd, reduceMul, reduceEqDiff, reduceLeDiff, Nat.reduceLT, reduceLE, reduceLT, reduceEq, reduceNe, PkM, PkB, Bs, underL_R, underL_Q, underL_U, underL_N, underL_O, underL_I]
       exact under_bput (Nat.lt_of_sub_pos (by decide))
     · intro i hi
       have e3 := wi_succ (k := i) (by omega)
       have n4 := st3_len k h i
       simp only [↓wt, wz, reduceAdd, reduceMul, reduceEqDiff, reduceLeDiff, Nat.reduceLT, reduceLE, reduceLT, reduceEq, reduceNe, PkM, PkB, Bs]
       repeat' (first | ((first | refine r_casesD (fun hp hb => ?_) (fun hp hb => ?_) | refine r_casesN (fun hp hb => ?_) (fun hp hb => ?_) | refine r_casesM (fun hp hb => ?_) (fun hp hb => ?_) | refine r_casesB (fun hp hb => ?_) (fun hp hb => ?_) | refine r_gcasesD (fun hp hb => ?_) (fun hp hb => ?_) | refine r_gcasesN (fun hp hb => ?_) (fun hp hb => ?_) | refine r_gcasesM (fun hp hb => ?_) (fun hp hb => ?_) | refine r_gcasesB (fun hp hb => ?_) (fun hp hb => ?_)) <;> simp only [↓wt, wz, reduceAdd, reduceMul, reduceEqDiff, reduceLeDiff, Nat.reduceLT, reduceLE, reduceLT, reduceEq, reduceNe, hb]) | ((with_reducible refine And.intro ?_ ?_); omega) | fail)
       · have hil : i < k.o.length := by omega
         simp only [↓wt, wz, reduceAdd, reduceMul, reduceEqDiff, reduceLeDiff, Nat.reduceLT, reduceLE, reduceLT, reduceEq, reduceNe, elem_U, OutA_eq]
         repeat (refine And.intro (by omega) ?_)
         refine bkput1_lend 1 6 (st3 k i) [(outAt k.o i).t, (outAt k.o i).c] rfl (by decide) rfl rfl (by simp; omega) ?_
         simp only [↓wt, wz, reduceAdd, reduceMul, reduceEqDiff, reduceLeDiff, Nat.reduceLT, reduceLE, reduceLT, reduceEq, reduceNe, BpN, Bs, e3, rnI, nblt, rn0, rnC, rnE, rnR, rnB, putAll, Nat.reduceSub, Nat.sub_zero, Nat.not_lt_zero, Nat.zero_sub, Nat.sub_self, rn_I, rn_B]
         refine ⟨i + 1, by omega, by omega, ?_⟩
         have q : st3 k (i + 1) = st3 k i ++ encN [(outAt k.o i).t, (outAt k.o i).c] := st3_succ (k := k) hil
         simp only [↓wt, wz, wkf, reduceAdd, reduceMul, reduceEqDiff, reduceLeDiff, Nat.reduceLT, reduceLE, reduceLT, reduceEq, reduceNe, Bs, e3, underL_R, underL_Q, underL_U, underL_N, underL_O, underL_I, q]
         exact under_bput (Nat.lt_of_sub_pos (by decide))
       · have hi2 : i = k.o.length := by omega
         subst hi2
         refine bkput1_lend 1 5 (st3 k k.o.length) [k.k] rfl (by decide) rfl rfl (by simp; omega) ?_
         simp only [↓wt, wz, reduceAdd, reduceMul, reduceEqDiff, reduceLeDiff, Nat.reduceLT, reduceLE, reduceLT, reduceEq, reduceNe, BpN, Bs, rnI, nblt, rn0, rnC, rnE, rnR, rnB, putAll, Nat.reduceSub, Nat.sub_zero, Nat.not_lt_zero, Nat.zero_sub, Nat.sub_self, rn_I, rn_B]
         simp only [q4]
         refine loop_ruleG tabOk [1, 3, 4, 74, 75] (fun i : Nat => [(76, .c (.int .i64 i))]) (fun i => PkM k (st4 k i) 6) (fun i => i ≤ k.n.length) (fun i => k.n.length - i) 0 (by omega) (fun _ => Nat.le_refl _) ?_ ?_
         · simp only [↓wt, wz, wkf, reduceAdd, reduceMul, reduceEqDiff, reduceLeDiff, Nat.reduceLT, reduceLE, reduceLT, reduceEq, reduceNe, PkM, PkB, Bs, underL_R, underL_Q, underL_U, underL_N, underL_O, underL_I]
           exact under_bput (Nat.lt_of_sub_pos (by decide))
         · intro i hi
           have e3 := wi_succ (k := i) (by omega)
           have n4 := st4_len k h i
           simp only [↓wt, wz, reduceAdd, reduceMul, reduceEqDiff, reduceLeDiff, Nat.reduceLT, reduceLE, reduceLT, reduceEq, reduceNe, PkM, PkB, Bs]
           repeat' (first | ((first | refine r_casesD (fun hp hb => ?_) (fun hp hb => ?_) | refine r_casesN (fun hp hb => ?_) (fun hp hb => ?_) | refine r_casesM (fun hp hb => ?_) (fun hp hb => ?_) | refine r_casesB (fun hp hb => ?_) (fun hp hb => ?_) | refine r_gcasesD (fun hp hb => ?_) (fun hp hb => ?_) | refine r_gcasesN (fun hp hb => ?_) (fun hp hb => ?_) | refine r_gcasesM (fun hp hb => ?_) (fun hp hb => ?_) | refine r_gcasesB (fun hp hb => ?_) (fun hp hb => ?_)) <;> simp only [↓wt, wz, reduceAdd, reduceMul, reduceEqDiff, reduceLeDiff, Nat.reduceLT, reduceLE, reduceLT, reduceEq, reduceNe, hb]) | ((with_reducible refine And.intro ?_ ?_); omega) | fail)
           · have hil : i < k.n.length := by omega
             simp only [↓wt, wz, reduceAdd, reduceMul, reduceEqDiff, reduceLeDiff, Nat.reduceLT, reduceLE, reduceLT, reduceEq, reduceNe, elem_N, NoteV_eq]
             repeat (refine And.intro (by omega) ?_)
             refine bkput1_lend 1 7 (st4 k i) [(noteAt k.n i).ck, (noteAt k.n i).t, (noteAt k.n i).w, (noteAt k.n i).a, (noteAt k.n i).k, (noteAt k.n i).y, (noteAt k.n i).p] rfl (by decide) rfl rfl (by simp; omega) ?_
             simp only [↓wt, wz, reduceAdd, reduceMul, reduceEqDiff, reduceLeDiff, Nat.reduceLT, reduceLE, reduceLT, reduceEq, reduceNe, BpN, Bs, e3, rnI, nblt, rn0, rnC, rnE, rnR, rnB, putAll, Nat.reduceSub, Nat.sub_zero, Nat.not_lt_zero, Nat.zero_sub, Nat.sub_self, rn_I, rn_B]
             refine ⟨i + 1, by omega, by omega, ?_⟩
             have q : st4 k (i + 1) = st4 k i ++ encN [(noteAt k.n i).ck, (noteAt k.n i).t, (noteAt k.n i).w, (noteAt k.n i).a, (noteAt k.n i).k, (noteAt k.n i).y, (noteAt k.n i).p] := st4_succ (k := k) hil
             simp only [↓wt, wz, wkf, reduceAdd, reduceMul, reduceEqDiff, reduceLeDiff, Nat.reduceLT, reduceLE, reduceLT, reduceEq, reduceNe, Bs, e3, underL_R, underL_Q, underL_U, underL_N, underL_O, underL_I, q]
             exact under_bput (Nat.lt_of_sub_pos (by decide))
           · have hi2 : i = k.n.length := by omega
             subst hi2
             refine bkput1_olend 1 7 (st4 k k.n.length) [k.a.y, k.a.p] (by simp) rfl (by decide) rfl rfl (by simp; omega) ?_
             simp only [q5]
             simp only [↓wt, wz, reduceAdd, reduceMul, reduceEqDiff, reduceLeDiff, Nat.reduceLT, reduceLE, reduceLT, reduceEq, reduceNe, BpO, Bs, rnI, nblt, rn0, rnC, rnE, rnR, rnB, putAll, Nat.reduceSub, Nat.sub_zero, Nat.not_lt_zero, Nat.zero_sub, Nat.sub_self, rn_I, rn_B]
             refine icall_drop [] (bknone_call k.a hla) ⟨arg_aud, trivial⟩ (.c _) ?_
             have n5 := st5_len k h
             have en := decide_eq_true hna
             simp only [↓wt, wz, reduceAdd, reduceMul, reduceEqDiff, reduceLeDiff, Nat.reduceLT, reduceLE, reduceLT, reduceEq, reduceNe, en, Bs, Tryz.results11]
             rw [st_none hna]
             exact exp_own rfl (by simp) (pureB _)
end Go.Ab
namespace Go.Ab
open Go Go.Proofs Go.RowKit
theorem encN_flat {α : Type} (g : α → List Int) : ∀ l : List α, encN (l.flatMap g) = l.flatMap fun x => encN (g x)
 | [] => rfl
 | a :: r => by rw [List.flatMap_cons, encN_append, encN_flat g r, List.flatMap_cons]
theorem encN_1 (v : Int) (r : List UInt8) : encN [v] ++ r = putL (uNat v) ++ r := by simp [encN]
theorem manyP_put {α : Type} {P : Rd α} {f : α → List UInt8} : ∀ (n : Nat) (xs : List α), xs.length = n → (∀ x ∈ xs, ∀ r, P (f x ++ r) = some (x, r)) → ∀ r, manyP P n (xs.flatMap f ++ r) = some (xs, r)
 | 0, xs, hn, h, r => by
  have : xs = [] := List.length_eq_zero_iff.1 hn
  subst this; rfl
 | n + 1, xs, hn, h, r => by
  have hne : xs ≠ [] := by intro e; subst e; cases hn
  obtain ⟨ys, x, rfl⟩ : ∃ ys x, xs = ys ++ [x] := ⟨_, _, (List.dropLast_concat_getLast hne).symm⟩
  rw [List.length_append] at hn
  have ih := manyP_put n ys (by simpa using hn) (fun y hy => h y (by simp [hy])) (f x ++ r)
  rw [List.flatMap_append, List.append_assoc]
  simp only [List.flatMap_cons, List.flatMap_nil, List.append_nil]
  rw [manyP, bindP_s ih, bindP_s (h x (by simp) r)]
  rfl
theorem manyP_of {α : Type} {P : Rd α} {f : α → List UInt8} {G : α → Prop} (h : ∀ s x r, P s = some (x, r) → s = f x ++ r ∧ G x) : ∀ (n : Nat) (s r : List UInt8) (xs : List α), manyP P n s = some (xs, r) → s = xs.flatMap f ++ r ∧ xs.length = n ∧ ∀ x ∈ xs, G x
 | 0, s, r, xs, e => by
  simp only [manyP, pureP, Option.some.injEq, Prod.mk.injEq] at e
  obtain ⟨rfl, rfl⟩ := e
  exact ⟨rfl, rfl, fun x hx => by cases hx⟩
 | n + 1, s, r, xs, e => by
  obtain ⟨ys, s1, e1, e2⟩ := bindP_some (by simpa only [manyP] using e)
  obtain ⟨x, s2, e3, e4⟩ := bindP_some e2
  simp only [pureP, Option.some.injEq, Prod.mk.injEq] at e4
  obtain ⟨rfl, rfl⟩ := e4
  obtain ⟨h1, h2, h3⟩ := manyP_of h n s s1 ys e1
  obtain ⟨h4, h5⟩ := h s1 x s2 e3
  refine ⟨by rw [h1, h4, List.flatMap_append]; simp, by simp [h2], fun z hz => ?_⟩
  rcases List.mem_append.1 hz with hz | hz
  · exact h3 z hz
  · rw [List.mem_singleton.1 hz]; exact h5
def B0 (m : Nat) (v : Int) : Prop := 0 ≤ v ∧ v ≤ m
def NoteW (n : NoteD) : Prop := B0 BW n.ck ∧ B0 BW n.t ∧ B0 BS n.w ∧ B0 BW n.a ∧ B0 BS n.k ∧ B0 BW n.y ∧ B0 BS n.p
def ReqW (who : Int) (x : ReqD) : Prop := x.w = who ∧ B0 BW x.t ∧ B0 BW x.a
def OutW (who : Int) (x : OutD) : Prop := x.w = who ∧ B0 BW x.t ∧ B0 BS x.c
def encReq (x : ReqD) : List UInt8 := encN [x.t, x.a]
def encOut (x : OutD) : List UInt8 := encN [x.t, x.c]
def encNote (n : NoteD) : List UInt8 := encN [n.ck, n.t, n.w, n.a, n.k, n.y, n.p]
theorem bs_bw : BS ≤ BW := by unfold BS BW; decide
theorem rd_putB {m : Nat} (hm : m ≤ BW) {v : Int} (h : B0 m v) (r : List UInt8) : rd m (putL (uNat v) ++ r) = some (v, r) := rd_put hm h.1 h.2
theorem req_put {who : Int} {x : ReqD} (h : ReqW who x) (r : List UInt8) : reqP who (encReq x ++ r) = some (x, r) := by
 obtain ⟨h1, h2, h3⟩ := h
 rw [encReq, reqP]
 simp only [encN, List.append_nil, List.append_assoc]
 rw [bindP_s (rd_putB (Nat.le_refl _) h2 _), bindP_s (rd_putB (Nat.le_refl _) h3 _), pureP_eq, ← h1]
theorem out_put {who : Int} {x : OutD} (h : OutW who x) (r : List UInt8) : outP who (encOut x ++ r) = some (x, r) := by
 obtain ⟨h1, h2, h3⟩ := h
 rw [encOut, outP]
 simp only [encN, List.append_nil, List.append_assoc]
 rw [bindP_s (rd_putB (Nat.le_refl _) h2 _), bindP_s (rd_putB bs_bw h3 _), pureP_eq, ← h1]
theorem look_put {y p : Int} (h1 : B0 BW y) (h2 : B0 BS p) (r : List UInt8) : lookP (encN [y, p] ++ r) = some ((y, p), r) := by
 rw [lookP]
 simp only [encN, List.append_nil, List.append_assoc]
 rw [bindP_s (rd_putB (Nat.le_refl _) h1 _), bindP_s (rd_putB bs_bw h2 _), pureP_eq]
theorem note_put {n : NoteD} (h : NoteW n) (r : List UInt8) : noteP (encNote n ++ r) = some (n, r) := by
 obtain ⟨h1, h2, h3, h4, h5, h6, h7⟩ := h
 have e : encNote n ++ r = encN [n.ck, n.t, n.w, n.a, n.k] ++ (encN [n.y, n.p] ++ r) := by
  rw [← List.append_assoc, ← encN_append]; rfl
 rw [e, noteP]
 simp only [encN, List.append_nil, List.append_assoc]
 rw [bindP_s (rd_putB (Nat.le_refl _) h1 _), bindP_s (rd_putB (Nat.le_refl _) h2 _), bindP_s (rd_putB bs_bw h3 _), bindP_s (rd_putB (Nat.le_refl _) h4 _), bindP_s (rd_putB bs_bw h5 _)]
 have := look_put h6 h7 r
 simp only [encN, List.append_nil, List.append_assoc] at this
 rw [bindP_s this, pureP_eq]
theorem req_of {who : Int} (s : List UInt8) (x : ReqD) (r : List UInt8) (h : reqP who s = some (x, r)) : s = encReq x ++ r ∧ ReqW who x := by
 obtain ⟨t, s1, e1, h⟩ := bindP_some h
 obtain ⟨a, s2, e2, h⟩ := bindP_some h
 simp only [pureP, Option.some.injEq, Prod.mk.injEq] at h
 obtain ⟨rfl, rfl⟩ := h
 obtain ⟨f1, f2⟩ := rd_of (Nat.le_refl _) e1
 obtain ⟨g1, g2⟩ := rd_of (Nat.le_refl _) e2
 exact ⟨by rw [f1, g1]; simp [encReq, encN], rfl, f2, g2⟩
theorem out_of {who : Int} (s : List UInt8) (x : OutD) (r : List UInt8) (h : outP who s = some (x, r)) : s = encOut x ++ r ∧ OutW who x := by
 obtain ⟨t, s1, e1, h⟩ := bindP_some h
 obtain ⟨a, s2, e2, h⟩ := bindP_some h
 simp only [pureP, Option.some.injEq, Prod.mk.injEq] at h
 obtain ⟨rfl, rfl⟩ := h
 obtain ⟨f1, f2⟩ := rd_of (Nat.le_refl _) e1
 obtain ⟨g1, g2⟩ := rd_of bs_bw e2
 exact ⟨by rw [f1, g1]; simp [encOut, encN], rfl, f2, g2⟩
theorem look_of {s r : List UInt8} {y : Int × Int} (h : lookP s = some (y, r)) : s = encN [y.1, y.2] ++ r ∧ B0 BW y.1 ∧ B0 BS y.2 := by
 obtain ⟨t, s1, e1, h⟩ := bindP_some h
 obtain ⟨a, s2, e2, h⟩ := bindP_some h
 simp only [pureP, Option.some.injEq, Prod.mk.injEq] at h
 obtain ⟨rfl, rfl⟩ := h
 obtain ⟨f1, f2⟩ := rd_of (Nat.le_refl _) e1
 obtain ⟨g1, g2⟩ := rd_of bs_bw e2
 exact ⟨by rw [f1, g1]; simp [encN], f2, g2⟩
theorem note_of (s : List UInt8) (n : NoteD) (r : List UInt8) (h : noteP s = some (n, r)) : s = encNote n ++ r ∧ NoteW n := by
 obtain ⟨ck, s1, e1, h⟩ := bindP_some h
 obtain ⟨t, s2, e2, h⟩ := bindP_some h
 obtain ⟨w, s3, e3, h⟩ := bindP_some h
 obtain ⟨a, s4, e4, h⟩ := bindP_some h
 obtain ⟨k, s5, e5, h⟩ := bindP_some h
 obtain ⟨y, s6, e6, h⟩ := bindP_some h
 simp only [pureP, Option.some.injEq, Prod.mk.injEq] at h
 obtain ⟨rfl, rfl⟩ := h
 obtain ⟨f1, g1⟩ := rd_of (Nat.le_refl _) e1
 obtain ⟨f2, g2⟩ := rd_of (Nat.le_refl _) e2
 obtain ⟨f3, g3⟩ := rd_of bs_bw e3
 obtain ⟨f4, g4⟩ := rd_of (Nat.le_refl _) e4
 obtain ⟨f5, g5⟩ := rd_of bs_bw e5
 obtain ⟨f6, g6, g7⟩ := look_of e6
 exact ⟨by rw [f1, f2, f3, f4, f5, f6]; simp [encNote, encN], g1, g2, g3, g4, g5, g6, g7⟩
theorem krows_put {c : Conf} {l : List RowD} (h : RightB c l) (r : List UInt8) : rowsP c (encN (numsB l) ++ r) = some (l, r) := by
 obtain ⟨h1, h2, h3⟩ := (takeB_is (Nat.le_refl M63) (by decide) c (encN (numsB l) ++ r)).uniq (.inl ⟨rfl, h, rfl⟩)
 rw [rowsP, if_pos h3, h1, h2]
theorem krows_of {c : Conf} {s r : List UInt8} {l : List RowD} (h : rowsP c s = some (l, r)) : s = encN (numsB l) ++ r ∧ RightB c l := by
 unfold rowsP at h
 split at h
 · rename_i ho
   simp only [Option.some.injEq, Prod.mk.injEq] at h
   obtain ⟨rfl, rfl⟩ := h
   rcases takeB_is (Nat.le_refl M63) (by decide) c s with ⟨_, h1, h2⟩ | ⟨h1, _⟩
   · exact ⟨h2, h1⟩
   · rw [ho] at h1; cases h1
 · cases h
def TriW (x : Int × Int × Int) : Prop := B0 1 x.1 ∧ B0 BW x.2.1 ∧ B0 BW x.2.2
def encTri (x : Int × Int × Int) : List UInt8 := encN [x.1, x.2.1, x.2.2]
theorem one_bw : 1 ≤ BW := by unfold BW; decide
theorem tri_put {x : Int × Int × Int} (h : TriW x) (r : List UInt8) : triP (encTri x ++ r) = some (x, r) := by
 obtain ⟨h1, h2, h3⟩ := h
 rw [encTri, triP]
 simp only [encN, List.append_nil, List.append_assoc]
 rw [bindP_s (rd_putB one_bw h1 _), bindP_s (rd_putB (Nat.le_refl _) h2 _), bindP_s (rd_putB (Nat.le_refl _) h3 _), pureP_eq]
theorem tri_of (s : List UInt8) (x : Int × Int × Int) (r : List UInt8) (h : triP s = some (x, r)) : s = encTri x ++ r ∧ TriW x := by
 obtain ⟨t, s1, e1, h⟩ := bindP_some h
 obtain ⟨a, s2, e2, h⟩ := bindP_some h
 obtain ⟨b, s3, e3, h⟩ := bindP_some h
 simp only [pureP, Option.some.injEq, Prod.mk.injEq] at h
 obtain ⟨rfl, rfl⟩ := h
 obtain ⟨f1, f2⟩ := rd_of one_bw e1
 obtain ⟨g1, g2⟩ := rd_of (Nat.le_refl _) e2
 obtain ⟨k1, k2⟩ := rd_of (Nat.le_refl _) e3
 exact ⟨by rw [f1, g1, k1]; simp [encTri, encN], f2, g2, k2⟩
theorem flagI_b (b : Bool) : B0 1 (flagI b) := by cases b <;> exact ⟨by decide, by decide⟩
theorem flagI_1 (b : Bool) : decide (flagI b = 1) = b := by cases b <;> rfl
theorem flagI_of {t : Int} (h : B0 1 t) : flagI (decide (t = 1)) = t := by
 unfold B0 at h
 by_cases e : t = 1
 · subst e; rfl
 · have : t = 0 := by omega
   subst this; rfl
theorem flat_range {α : Type} (d : α) (f : α → List Int) (l : List α) : (List.range l.length).flatMap (fun i => f (l.getD i d)) = l.flatMap f := by
 induction l with
 | nil => rfl
 | cons a r ih =>
  rw [List.length_cons, List.range_succ_eq_map, List.flatMap_cons, List.flatMap_map, List.flatMap_cons, ← ih]
  rfl
theorem tri_map (l : List (Int × Int × Int)) (h : ∀ x ∈ l, TriW x) (y p : Int) (mv : Bool) : triL ⟨y, p, l.map (fun x => decide (x.1 = 1)), l.map (fun x => x.2.1), l.map (fun x => x.2.2), mv⟩ l.length = l.flatMap fun x => [x.1, x.2.1, x.2.2] := by
 rw [← flat_range (0, 0, 0) (fun x : Int × Int × Int => [x.1, x.2.1, x.2.2]) l, triL, List.flatMap_def, List.flatMap_def]
 congr 1
 refine List.map_congr_left fun i hi => ?_
 have hi := List.mem_range.1 hi
 have e : l.getD i (0, 0, 0) = l[i] := by rw [List.getD_eq_getElem?_getD, List.getElem?_eq_getElem hi]; rfl
 have := h l[i] (List.getElem_mem hi)
 simp only [List.getD_eq_getElem?_getD, List.getElem?_map, List.getElem?_eq_getElem hi, Option.map_some, Option.getD_some, flagI_of this.1]
def AudW (n : Nat) (a : AudD) : Prop := a = aud00 ∨ ((a.y ≠ 0 ∨ a.p ≠ 0) ∧ B0 BW a.y ∧ B0 BS a.p ∧ a.told.length = n ∧ a.use.length = n ∧ a.inc.length = n ∧ (∀ i, i < n → B0 BW (a.use.getD i 0)) ∧ ∀ i, i < n → B0 BW (a.inc.getD i 0))
theorem none00 : NoneA aud00 := ⟨⟨rfl, rfl⟩, rfl, rfl, rfl, rfl⟩
theorem aud_put {n : Nat} {a : AudD} (h : AudW n a) (r : List UInt8) : audP n (encN (audL a) ++ r) = some (a, r) := by
 rcases h with rfl | ⟨h1, h2, h3, h4, h5, h6, h7, h8⟩
 · have e : audL aud00 = [0, 0] := by rw [audL, if_pos none00]; rfl
   rw [e, audP, bindP_s (look_put (y := 0) (p := 0) ⟨by decide, by decide⟩ ⟨by decide, by decide⟩ r), if_pos rfl]
   rfl
 · have hn : ¬ NoneA a := fun h => by have := h.1; omega
   have e : encN (audL a) ++ r = encN [a.y, a.p] ++ (((List.range n).map fun i => (flagI (a.told.getD i false), a.use.getD i 0, a.inc.getD i 0)).flatMap encTri ++ (putL (uNat (flagI a.mv)) ++ r)) := by
    rw [audL, if_neg hn, encN_append, encN_append, triL, h4, encN_flat, List.flatMap_map]
    simp only [List.append_assoc, encN_1]
    rfl
   rw [e, audP, bindP_s (look_put h2 h3 _), if_neg (by simp only [Prod.mk.injEq]; omega)]
   rw [bindP_s (manyP_put n _ (by simp) (fun x hx r => by
    obtain ⟨i, hi, rfl⟩ := List.mem_map.1 hx
    have hi := List.mem_range.1 hi
    exact tri_put ⟨flagI_b _, h7 i hi, h8 i hi⟩ r) _), bindP_s (rd_putB one_bw (flagI_b _) _), pureP_eq]
   congr 2
   obtain ⟨y, p, told, use, inc, mv⟩ := a
   simp only [List.map_map] at *
   simp only [AudD.mk.injEq, true_and]
   refine ⟨?_, ?_, ?_, flagI_1 _⟩
   · refine List.ext_getElem (by simp [h4]) fun i h1 h2 => ?_
     simp [flagI_1, List.getElem?_eq_getElem h2]
   · refine List.ext_getElem (by simp [h5]) fun i h1 h2 => ?_
     simp [List.getElem?_eq_getElem h2]
   · refine List.ext_getElem (by simp [h6]) fun i h1 h2 => ?_
     simp [List.getElem?_eq_getElem h2]
theorem aud_of {n : Nat} {s r : List UInt8} {a : AudD} (h : audP n s = some (a, r)) : s = encN (audL a) ++ r ∧ AudW n a := by
 obtain ⟨y, s1, e1, h⟩ := bindP_some h
 obtain ⟨f1, f2, f3⟩ := look_of e1
 by_cases hy : y = (0, 0)
 · rw [if_pos hy] at h
   simp only [pureP, Option.some.injEq, Prod.mk.injEq] at h
   obtain ⟨rfl, rfl⟩ := h
   refine ⟨?_, .inl rfl⟩
   rw [f1, hy]
   show _ = encN (audL aud00) ++ s1
   rw [show audL aud00 = [0, 0] by rw [audL, if_pos none00]; rfl]
 · rw [if_neg hy] at h
   obtain ⟨l, s2, e2, h⟩ := bindP_some h
   obtain ⟨v, s3, e3, h⟩ := bindP_some h
   simp only [pureP, Option.some.injEq, Prod.mk.injEq] at h
   obtain ⟨rfl, rfl⟩ := h
   obtain ⟨g1, g2, g3⟩ := manyP_of tri_of n s1 s2 l e2
   obtain ⟨k1, k2⟩ := rd_of one_bw e3
   have hne : y.1 ≠ 0 ∨ y.2 ≠ 0 := by
    by_cases e : y.1 = 0
    · right; intro e'; exact hy (Prod.ext e e')
    · exact .inl e
   have hn : ¬ NoneA ⟨y.1, y.2, l.map (fun x => decide (x.1 = 1)), l.map (fun x => x.2.1), l.map (fun x => x.2.2), decide (v = 1)⟩ := fun h => by
    have := h.1
    simp only at this
    omega
   refine ⟨?_, .inr ⟨hne, f2, f3, by simp [g2], by simp [g2], by simp [g2], fun i hi => ?_, fun i hi => ?_⟩⟩
   · rw [audL, if_neg hn]
     simp only [List.length_map]
     rw [tri_map l g3, encN_append, encN_append, encN_flat, f1, g1, k1]
     simp only [flagI_of k2, List.append_assoc, encN_1]
     rfl
   · have hi : i < l.length := by omega
     have := (g3 l[i] (List.getElem_mem hi)).2.1
     simpa [List.getElem?_eq_getElem hi] using this
   · have hi : i < l.length := by omega
     have := (g3 l[i] (List.getElem_mem hi)).2.2
     simpa [List.getElem?_eq_getElem hi] using this
def WfK (c : Conf) (who : Int) (k : BookD) : Prop := B0 BW k.ck ∧ RightB c k.r ∧ (k.l.length ≤ c.q.toNat ∧ ∀ x ∈ k.l, ReqW who x) ∧ (k.o.length ≤ c.q.toNat + 1 ∧ ∀ x ∈ k.o, OutW who x) ∧ B0 BS k.k ∧ (k.n.length = c.n.toNat ∧ ∀ n ∈ k.n, NoteW n) ∧ AudW c.n.toNat k.a
theorem enc_split (k : BookD) (r : List UInt8) : encBk k ++ r = putL (uNat k.ck) ++ (encN (numsB k.r) ++ (putL (uNat (k.l.length : Int)) ++ (k.l.flatMap encReq ++ (putL (uNat (k.o.length : Int)) ++ (k.o.flatMap encOut ++ (putL (uNat k.k) ++ (k.n.flatMap encNote ++ (encN (audL k.a) ++ r)))))))) := by
 have e1 : encN (lineL k.l) = k.l.flatMap encReq := encN_flat _ _
 have e2 : encN (outsL k.o) = k.o.flatMap encOut := encN_flat _ _
 have e3 : encN (notesL k.n) = k.n.flatMap encNote := encN_flat _ _
 simp only [encBk, numsK, encN_append, e1, e2, e3, List.append_assoc, encN_1]
theorem book_put {c : Conf} {who : Int} {k : BookD} (h : WfK c who k) (r : List UInt8) : bookP c who (encBk k ++ r) = some (k, r) := by
 obtain ⟨h1, h2, ⟨h3, h4⟩, ⟨h5, h6⟩, h7, ⟨h8, h9⟩, h10⟩ := h
 have hm := h2.1
 unfold MayC at hm
 have hq : c.q.toNat + 1 ≤ BW := by unfold BW; omega
 rw [enc_split, bookP, bindP_s (rd_putB (Nat.le_refl _) h1 _), bindP_s (krows_put h2 _), bindP_s (rd_putB (m := c.q.toNat) (by omega) ⟨by omega, by omega⟩ _), bindP_s (manyP_put _ k.l (by simp) (fun x hx r => req_put (h4 x hx) r) _), bindP_s (rd_putB hq ⟨by omega, by omega⟩ _),
  bindP_s (manyP_put _ k.o (by simp) (fun x hx r => out_put (h6 x hx) r) _), bindP_s (rd_putB bs_bw h7 _), bindP_s (manyP_put _ k.n h8 (fun x hx r => note_put (h9 x hx) r) _), bindP_s (aud_put h10 _), pureP_eq]
theorem book_of {c : Conf} {who : Int} {k : BookD} {s r : List UInt8} (h : bookP c who s = some (k, r)) : s = encBk k ++ r ∧ WfK c who k := by
 obtain ⟨ck, s1, e1, h⟩ := bindP_some h
 obtain ⟨rs, s2, e2, h⟩ := bindP_some h
 obtain ⟨n1, s3, e3, h⟩ := bindP_some h
 obtain ⟨l, s4, e4, h⟩ := bindP_some h
 obtain ⟨n2, s5, e5, h⟩ := bindP_some h
 obtain ⟨o, s6, e6, h⟩ := bindP_some h
 obtain ⟨kk, s7, e7, h⟩ := bindP_some h
 obtain ⟨ns, s8, e8, h⟩ := bindP_some h
 obtain ⟨a, s9, e9, h⟩ := bindP_some h
 simp only [pureP, Option.some.injEq, Prod.mk.injEq] at h
 obtain ⟨rfl, rfl⟩ := h
 obtain ⟨f2, g2⟩ := krows_of e2
 have hm := g2.1
 unfold MayC at hm
 have hq : c.q.toNat + 1 ≤ BW := by unfold BW; omega
 obtain ⟨f1, g1⟩ := rd_of (Nat.le_refl _) e1
 obtain ⟨f3, g3⟩ := rd_of (by omega) e3
 obtain ⟨f4, g4, k4⟩ := manyP_of req_of _ _ _ _ e4
 obtain ⟨f5, g5⟩ := rd_of hq e5
 obtain ⟨f6, g6, k6⟩ := manyP_of out_of _ _ _ _ e6
 obtain ⟨f7, g7⟩ := rd_of bs_bw e7
 obtain ⟨f8, g8, k8⟩ := manyP_of note_of _ _ _ _ e8
 obtain ⟨f9, g9⟩ := aud_of e9
 refine ⟨?_, g1, g2, ⟨by simp only; omega, k4⟩, ⟨by simp only; omega, k6⟩, g7, ⟨g8, k8⟩, g9⟩
 rw [enc_split]
 have q1 : ((l.length : Nat) : Int) = n1 := by omega
 have q2 : ((o.length : Nat) : Int) = n2 := by omega
 simp only [q1, q2]
 rw [f1, f2, f3, f4, f5, f6, f7, f8, f9]
end Go.Ab
namespace Go.Ab
open Go Go.Proofs Go.RowKit
theorem noteOk_w {c : Conf} (hm : MayC c) {k : Int} {n : NoteD} (h : NoteOk c k n) : NoteW n := by
 unfold MayC at hm
 obtain ⟨h1, h2, h3, h4⟩ := h
 unfold HeadOk MaySt at h2
 unfold LookOk at h4
 unfold NoteW B0 BW BS
 omega
theorem getD_mem {α : Type} {l : List α} {d : α} {x : α} (h : x ∈ l) : ∃ i, i < l.length ∧ l.getD i d = x := by
 obtain ⟨i, hi, rfl⟩ := List.getElem_of_mem h
 exact ⟨i, hi, by rw [List.getD_eq_getElem?_getD, List.getElem?_eq_getElem hi]; rfl⟩
theorem may_wf {c : Conf} {who : Int} {k : BookD} (h : MayK c who k) : WfK c who k := by
 obtain ⟨h1, h2, h3, h4, h5, h6, h7, h8, h9, h10, h11⟩ := h
 have hm := h3.1
 have hm' := hm
 unfold MayC at hm
 refine ⟨⟨h2.1, by unfold BW; omega⟩, h3, ⟨by have := h4.2.1; omega, fun x hx => ?_⟩, ⟨by omega, fun x hx => ?_⟩, ⟨h8.1, by unfold BS; omega⟩, ⟨by have := h9.2.1; omega, fun n hn => ?_⟩, ?_⟩
 · obtain ⟨i, hi, rfl⟩ := getD_mem (d := default) hx
   obtain ⟨⟨⟨g1, g2⟩, g3⟩, _⟩ := h4.2.2 i hi
   unfold MaySt reqAt at g1
   unfold Amt reqAt at g3
   unfold reqAt at g2
   refine ⟨g2, ⟨by omega, by unfold BW; omega⟩, ⟨by omega, by unfold BW; omega⟩⟩
 · have := List.any_eq_false.1 h7 x hx
   simp only [decide_eq_true_eq, Decidable.not_not] at this
   obtain ⟨⟨g1, g2⟩, g3, g4⟩ := this
   unfold MaySt at g1
   refine ⟨g2, ⟨by omega, by unfold BW; omega⟩, ⟨by omega, by unfold BS; omega⟩⟩
 · obtain ⟨i, hi, rfl⟩ := getD_mem (d := note0) hn
   exact noteOk_w hm' (h9.2.2 i hi).1
 · rcases h10.2 with ⟨⟨g1, g2⟩, g3, g4, g5, g6⟩ | ⟨⟨g1, g2, g3, g4⟩, ⟨g5, g6, g7⟩, g8, g9, g10⟩
   · refine .inl ?_
     have := List.length_eq_zero_iff.1 g3
     have := List.length_eq_zero_iff.1 g4
     have := List.length_eq_zero_iff.1 g5
     cases ha : k.a
     simp only [ha] at *
     simp_all [aud00]
   · refine .inr ⟨.inl (by omega), ⟨by omega, by unfold BW; omega⟩, ⟨by omega, by unfold BS; omega⟩, by omega, by omega, by omega, fun i hi => ?_, fun i hi => ?_⟩
     · have hi2 : i < k.a.use.length := by omega
       have := g9 k.a.use[i] (List.getElem_mem hi2)
       rw [List.getD_eq_getElem?_getD, List.getElem?_eq_getElem hi2]
       unfold Within at this
       exact ⟨this.1, by have := this.2; simp only [Option.getD_some]; unfold BW; omega⟩
     · have hi2 : i < k.a.inc.length := by omega
       have := g10 k.a.inc[i] (List.getElem_mem hi2)
       rw [List.getD_eq_getElem?_getD, List.getElem?_eq_getElem hi2]
       unfold Within at this
       exact ⟨this.1, by have := this.2; simp only [Option.getD_some]; unfold BW; omega⟩
theorem right_lens {c : Conf} {l : List RowD} (h : RightB c l) : Lens l := by
 have hm := h.1
 unfold MayC at hm
 exact lens_dec ⟨by have := h.2.1.1; omega, fun r hr => by have := (right_mem h hr).1; omega⟩
theorem wf_lens {c : Conf} {who : Int} {k : BookD} (h : WfK c who k) : BLens k := by
 obtain ⟨h1, h2, h3, h4, h5, h6, h7⟩ := h
 have hm := h2.1
 unfold MayC at hm
 refine ⟨right_lens h2, by omega, by omega, by omega, ?_⟩
 rcases h7 with h7 | ⟨_, _, _, g1, g2, g3, _⟩
 · rw [h7]; exact ⟨by decide, by decide, by decide⟩
 · exact ⟨by omega, by omega, by omega⟩
def BookIs (c : Conf) (who : Int) (s : List UInt8) (x : BookD × Bool) : Prop := (x.2 = true ∧ MayK c who x.1 ∧ s = encBk x.1) ∨ (x = (k00, false) ∧ ∀ k, MayK c who k → encBk k ≠ s)
theorem encBk_inj {c : Conf} {who : Int} {k k' : BookD} (h : MayK c who k) (h' : MayK c who k') (he : encBk k = encBk k') : k = k' := by
 have e1 := book_put (may_wf h) []
 have e2 := book_put (may_wf h') []
 rw [he, e2] at e1
 simp only [Option.some.injEq, Prod.mk.injEq, and_true] at e1
 exact e1.symm
theorem BookIs.uniq {c : Conf} {who : Int} {s : List UInt8} {x y : BookD × Bool} (hx : BookIs c who s x) (hy : BookIs c who s y) : x = y := by
 rcases hx with ⟨h1, h2, h3⟩ | ⟨h1, h2⟩ <;> rcases hy with ⟨g1, g2, g3⟩ | ⟨g1, g2⟩
 · exact Prod.ext (encBk_inj h2 g2 (h3.symm.trans g3)) (h1.trans g1.symm)
 · exact absurd h3.symm (g2 _ h2)
 · exact absurd g3.symm (h2 _ g2)
 · rw [h1, g1]
noncomputable def takeBk (c : Conf) (who : Int) (s : List UInt8) : BookD × Bool := takeK (fun k => decide (MayK c who k)) c who s
theorem takeBk_is (c : Conf) (who : Int) (s : List UInt8) : BookIs c who s (takeBk c who s) := by
 have hno : (∀ k, bookP c who s = some (k, []) → ¬ MayK c who k) → ∀ k, MayK c who k → encBk k ≠ s := fun h k hk e => h k (by rw [← e]; have := book_put (may_wf hk) []; rwa [List.append_nil] at this) hk
 unfold takeBk takeK
 split
 · rename_i k h
   split
   · rename_i hm
     have := (book_of h).1
     rw [List.append_nil] at this
     exact .inl ⟨rfl, of_decide_eq_true hm, this⟩
   · rename_i hm
     refine .inr ⟨rfl, hno fun k' h' hk' => hm ?_⟩
     rw [h] at h'
     simp only [Option.some.injEq, Prod.mk.injEq, and_true] at h'
     exact decide_eq_true (h' ▸ hk')
 · rename_i h
   exact .inr ⟨rfl, hno fun k' h' hk' => h k' h'⟩
theorem bktake_call (c : Conf) (w : Int) (s : List UInt8) (hl : s.length ≤ 1000000000) : PCall Tryz.prog 7 [ConfA c, .c (.int .i64 w), .l 1 (s.map encB)] (.t [BookV (takeBk c w s).1, .c (.bool (takeBk c w s).2)]) :=
 booktake_call _ c w s hl fun k h => bkmay_call c w k (wf_lens (book_of h).2)
end Go.Ab
namespace Go.Ab
open Go Go.Proofs Go.RowKit
abbrev B62 : Nat := 4611686018427387904
end Go.Ab
