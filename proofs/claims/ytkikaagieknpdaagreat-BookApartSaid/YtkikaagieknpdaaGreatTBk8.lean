/- Books: what is done behind a panic. Books: Take. Books: may it be a request, .. -/
import Derived.Test.YtkikaagieknpdaaGreatBk7
import Derived.Recover
import Derived.Test.YtkikaagieknpdaaGreatAbG8
import Derived.Test.YtkikaagieknpdaaGreatTRt15
import Derived.Test.YtkikaagieknpdaaGreatTRt2
import Derived.Test.YtkikaagieknpdaaGreatAd1
set_option linter.unusedSimpArgs false
set_option linter.unusedVariables false
set_option linter.constructorNameAsVariable false
set_option maxRecDepth 100000
open Nat (reduceAdd reduceMul reduceEqDiff reduceLeDiff)
open Int (reduceLE reduceLT reduceEq reduceNe)
namespace Go.Ab
open Go Go.Proofs Go.RowKit
variable {pf : Value → Mem → Prop}
section
variable {P : Program} {ops : Array Oper} {Q : Exit → Act → List Frame → World → Prop} {i : Nat} {rest : List Nat} {a : Act} {cs cs' : List Frame} {w : World} {o : Oper} {v : Value}
theorem wS_recN (ho : ops[i]? = some o) (hg : o.guard = none) (hr : (execOp a.eval o).run P w = .ok .recover w) (hc : recoverD cs = none) (h : wpOpsS P ops Q rest (a.put o.dst .nilIface) cs w) : wpOpsS P ops Q (i :: rest) a cs w := by
 simp only [wpOpsS, ho]
 rw [if_pos (by simp [Region.wanted, hg]), hr]
 simp only [hc]
 exact h
theorem wS_recY (ho : ops[i]? = some o) (hg : o.guard = none) (hr : (execOp a.eval o).run P w = .ok .recover w) (hc : recoverD cs = some (v, cs')) (h : wpOpsS P ops Q rest (a.put o.dst v) cs' w) : wpOpsS P ops Q (i :: rest) a cs w := by
 simp only [wpOpsS, ho]
 rw [if_pos (by simp [Region.wanted, hg]), hr]
 simp only [hc]
 exact h
theorem wS_op (ho : ops[i]? = some o) (hg : o.guard = none) (h : o.wp P a w (fun a' w' => wpOpsS P ops Q rest a' cs w') (fun e a' w' => Q e a' cs w')) : wpOpsS P ops Q (i :: rest) a cs w := by
 simp only [wpOpsS, ho]
 rw [if_pos (by simp [Region.wanted, hg])]
 unfold Oper.wp at h
 generalize (execOp a.eval o).run P w = r at h ⊢
 split
 · exact h.elim
 · exact h
theorem wS_val (ho : ops[i]? = some o) (hg : o.guard = none) (hr : (execOp a.eval o).run P w = .ok (.value v) w) (h : wpOpsS P ops Q rest (a.put o.dst v) cs w) : wpOpsS P ops Q (i :: rest) a cs w :=
 wS_op ho hg (by unfold Oper.wp; rw [hr]; exact h)
end
theorem aops_S {P : Program} {tab : Tab} (hT : TabOk P tab) {ops : Array Oper} {K : ASt → Prop} {Q : Exit → Act → List Frame → World → Prop} {w0 : World} {D : List Deferred} {cs : List Frame} :
 ∀ (L : List Oper) (k : Nat) (E : Env) (s : ASt) (a : Act), ops.toList.drop k = L → (∀ o ∈ L, o.guard = none) → St w0 E D s a → aops NoP P tab ops K L s → (∀ E' s' a', St w0 E' D s' a' → Later E E' → K s' → Q .normal a' cs E'.w) →
  wpOpsS P ops Q (List.range' k L.length) a cs E.w
 | [], k, E, s, a, hl, hg, h, hk, hn => hn E s a h (.refl E) hk
 | o :: L, k, E, s, a, hl, hg, h, hk, hn => by
  have ho : ops[k]? = some o := by
   have := congrArg (·[0]?) hl
   simpa using this
  have hl2 : ops.toList.drop (k + 1) = L := by
   have := congrArg (List.drop 1) hl
   rw [List.drop_drop] at this
   simpa [Nat.add_comm] using this
  have hgo := hg o (by simp)
  unfold aops at hk
  rw [hgo] at hk
  exact wS_op ho hgo (aop_sound hT h hk (fun E' s' a' h1 h2 h3 => aops_S hT L (k + 1) E' s' a' hl2 (fun x hx => hg x (by simp [hx])) h1 h3 fun E2 s2 a2 g1 g2 g3 => hn E2 s2 a2 g1 (h2.trans g2) g3)
   fun x w' ⟨_, _, hx, _⟩ => hx.elim)
theorem aops_S' {P : Program} {tab : Tab} (hT : TabOk P tab) {ops : Array Oper} {K : ASt → Prop} {Q : Exit → Act → List Frame → World → Prop} {w0 : World} {D : List Deferred} {cs : List Frame} {E : Env} {s : ASt} {a a' : Act} (h : St w0 E D s a) (he : a' = a) (k n : Nat)
 (hn : (ops.toList.drop k).length = n) (hg : ∀ o ∈ ops.toList.drop k, o.guard = none) (hk : aops NoP P tab ops K (ops.toList.drop k) s) (hq : ∀ E' s' a', St w0 E' D s' a' → Later E E' → K s' → Q .normal a' cs E'.w) :
  wpOpsS P ops Q (List.range' k n) a' cs E.w := by
 subst hn he
 exact aops_S hT _ k E s _ rfl hg h hk hq
theorem aw_S {P : Program} {tab : Tab} (hT : TabOk P tab) {c : Code} {K : Exit → ASt → Prop} {Q : Exit → Act → List Frame → World → Prop} {w0 : World} {E : Env} {D : List Deferred} {s : ASt} {a : Act} {cs : List Frame} (hst : St w0 E D s a) (h : aw P tab c K s)
 (hn : ∀ ex E' s' a', St w0 E' D s' a' → Later E E' → K ex s' → Q ex a' cs E'.w) : c.wpS P Q a cs E.w :=
 wpS_of_wp (wpIn_wide.1 (Code.wpIn_mono (fun ex a' w' ⟨E', s', h1, h2, h3, h4⟩ => h1 ▸ hn ex E' s' a' h2 h3 h4) (aw_sound hT c K s h acc_no none w0 E D a hst)))
theorem rest_S {P : Program} {tab : Tab} (hT : TabOk P tab) {w0 : World} {D : List Deferred} {E : Env} {s : ASt} {a : Act} (h : St w0 E D s a) (k n : Nat) (K : Exit → ASt → Prop) (ops : Array Oper) (c : Code) (Q : Exit → Act → List Frame → World → Prop) (cs : List Frame) (a' : Act) (he : a' = a)
 (hn : (ops.toList.drop k).length = n) (hg : ∀ o ∈ ops.toList.drop k, o.guard = none) (hk : aops NoP P tab ops (fun s => aw P tab c K s) (ops.toList.drop k) s) (hq : ∀ ex E' s' a', St w0 E' D s' a' → Later E E' → K ex s' → Q ex a' cs E'.w) :
  wpOpsS P ops (Exit.thenS (c.wpS P Q) Q) (List.range' k n) a' cs E.w :=
 aops_S' hT h he k n hn hg hk fun E' s' a' h1 h2 h3 => aw_S hT h1 h3 fun ex E2 s2 a2 g1 g2 g3 => hq ex E2 s2 a2 g1 (h2.trans g2) g3
theorem aops_Sp {P : Program} {tab : Tab} (hT : TabOk P tab) {ops : Array Oper} {K : ASt → Prop} {Q : Exit → Act → List Frame → World → Prop} {w0 : World} {D : List Deferred} {cs : List Frame} {rest : List Nat} :
 ∀ (L : List Oper) (k : Nat) (E : Env) (s : ASt) (a : Act), (∀ i, i < L.length → ops[k + i]? = L[i]?) → (∀ o ∈ L, o.guard = none) → St w0 E D s a → aops NoP P tab ops K L s → (∀ E' s' a', St w0 E' D s' a' → Later E E' → K s' → wpOpsS P ops Q rest a' cs E'.w) →
  wpOpsS P ops Q (List.range' k L.length ++ rest) a cs E.w
 | [], k, E, s, a, hl, hg, h, hk, hn => hn E s a h (.refl E) hk
 | o :: L, k, E, s, a, hl, hg, h, hk, hn => by
  have ho : ops[k]? = some o := by simpa using hl 0 (by simp)
  have hl2 : ∀ i, i < L.length → ops[k + 1 + i]? = L[i]? := fun i hi => by
   have := hl (i + 1) (by simpa using hi)
   rw [show k + 1 + i = k + (i + 1) by omega]
   simpa using this
  have hgo := hg o (by simp)
  unfold aops at hk
  rw [hgo] at hk
  exact wS_op ho hgo (aop_sound hT h hk (fun E' s' a' h1 h2 h3 => aops_Sp hT L (k + 1) E' s' a' hl2 (fun x hx => hg x (by simp [hx])) h1 h3 fun E2 s2 a2 g1 g2 g3 => hn E2 s2 a2 g1 (h2.trans g2) g3)
   fun x w' ⟨_, _, hx, _⟩ => hx.elim)
theorem store0 {P : Program} {E : Env} {t : TypeId} {i : Nat} {v y : Value} (ht : ∀ w, (sizeOf t).run P w = Result.ok 0 w) (hr : Rep E (.p i 0 0 1) v) (hy : Rep E (.g []) y) : (Instr.storeAt t v y).run P E.w = .ok () E.w := by
 cases hr
 cases hy with
 | g _ ys h _ =>
  have : ys = #[] := by simpa using h
  subst this
  simp [Instr.storeAt, Instr.sureAddr, Sem.run_bind, Result.andThen, storeVar, ht, Sem.run_pure, Value.cells, storeCells]
theorem part_S {P : Program} {tab : Tab} (hT : TabOk P tab) {w0 : World} {D : List Deferred} {E : Env} {s : ASt} {a : Act} (h : St w0 E D s a) (k n m t y i : Nat) (K : Exit → ASt → Prop) (ops : Array Oper) (c : Code) (Q : Exit → Act → List Frame → World → Prop) (cs : List Frame) (a' : Act) (o : Oper) (l : List Nat) (hl : l = List.range' k n ++ (k + n) :: List.range' (k + n + 1) m) (he : a' = a)
 (hn : ((ops.toList.drop k).take n).length = n) (hm : (ops.toList.drop (k + n + 1)).length = m) (hg : ∀ o ∈ ops.toList.drop k, o.guard = none) (ho : ops[k + n]? = some o) (hd : o.dst = none) (ho2 : o.guard = none)
 (hop : ∀ (E : Env) (a : Act), Rep E (.p i 0 0 1) (a.tmps.getD t undef) → Rep E (.g []) (a.tmps.getD y undef) → (execOp a.eval o).run P E.w = .ok .skip E.w)
 (hk : aops NoP P tab ops (fun s => Slots.get s.sl t = .p i 0 0 1 ∧ Slots.get s.sl y = .g [] ∧ aops NoP P tab ops (fun s => aw P tab c K s) (ops.toList.drop (k + n + 1)) s) ((ops.toList.drop k).take n) s)
 (hq : ∀ ex E' s' a', St w0 E' D s' a' → Later E E' → K ex s' → Q ex a' cs E'.w) :
  wpOpsS P ops (Exit.thenS (c.wpS P Q) Q) l a' cs E.w := by
 subst he hl
 have key := aops_Sp (Q := Exit.thenS (c.wpS P Q) Q) (cs := cs) (rest := (k + n) :: List.range' (k + n + 1) m) hT ((ops.toList.drop k).take n) k E s a' (fun i hi => by
  rw [List.getElem?_take_of_lt (by omega), List.getElem?_drop]
  simp) (fun x hx => hg x (List.mem_of_mem_take hx)) h hk fun E' s' a2 h1 h2 ⟨h3, h4, h5⟩ => by
   have e1 := h1.r t
   have e2 := h1.r y
   rw [h3] at e1
   rw [h4] at e2
   refine wS_op ho ho2 ?_
   unfold Oper.wp
   rw [hop E' a2 e1 e2]
   show wpOpsS P ops _ _ (a2.put o.dst undef) cs E'.w
   rw [hd]
   exact rest_S hT h1 (k + n + 1) m K ops c Q cs _ rfl hm (fun x hx => hg x (by
    rw [show k + n + 1 = k + (n + 1) by omega, ← List.drop_drop] at hx
    exact List.mem_of_mem_drop hx)) h5 fun ex E3 s3 a3 g1 g2 g3 => hq ex E3 s3 a3 g1 (h2.trans g2) g3
 rw [hn] at key
 exact key
def OutM (x : AV) (o : Bool) : Mem := ⟨[(1, ⟨37, 12, [x]⟩), (2, ⟨4, 1, [.c (.bool o)]⟩)], 3⟩
def zeroK : AV := .g [.c (.int .i64 0), .c (.slice none 0 0), .c (.slice none 0 0), .c (.slice none 0 0), .c (.int .i64 0), .c (.slice none 0 0), .c (.int .i64 0), .c (.int .i64 0), .c (.slice none 0 0), .c (.slice none 0 0), .c (.slice none 0 0), .c (.bool false)]
theorem run_ta {v : Value} {o : Bool} (h : (v = .nilIface ∧ o = false) ∨ (v = wrongV ∧ o = true)) (w : World) : (Instr.typeAssert v 20 53 true).run Tryz.prog w = .ok (.tuple #[.agg #[], .bool o]) w := by
 have hz := (tabOk 53 _ rfl).run_zero w
 have hu := Tryz.underlying53
 rcases h with ⟨rfl, rfl⟩ | ⟨rfl, rfl⟩
 · simp only [Instr.typeAssert, Sem.run_bind, run_underlying hu, Result.andThen, hz]
   rfl
 · simp only [Instr.typeAssert, Sem.run_bind, run_underlying hu, Result.andThen, wrongV]
   rfl
theorem wS_rec {P : Program} {ops : Array Oper} {Q : Exit → Act → List Frame → World → Prop} {i : Nat} {rest : List Nat} {a : Act} {cs cs' : List Frame} {w : World} {o : Oper} {v : Value} (ho : ops[i]? = some o) (hg : o.guard = none) (hr : (execOp a.eval o).run P w = .ok .recover w) (hc : (recoverD cs = none ∧ v = .nilIface ∧ cs' = cs) ∨ recoverD cs = some (v, cs')) (h : wpOpsS P ops Q rest (a.put o.dst v) cs' w) : wpOpsS P ops Q (i :: rest) a cs w := by
 rcases hc with ⟨h1, rfl, rfl⟩ | h1
 · exact wS_recN ho hg hr h1 h
 · exact wS_recY ho hg hr h1 h
theorem zeroK_under : UnderL 3 [zeroK] := under_cells fun c hc => by
 simp only [zeroK, List.mem_cons, List.not_mem_nil, or_false] at hc
 rcases hc with rfl | rfl | rfl | rfl | rfl | rfl | rfl | rfl | rfl | rfl | rfl | rfl <;> exact .c _
theorem under_cells1 {k : Nat} {b : Bool} : UnderL k [.c (.bool b)] := underL_mem fun x hx c hc => by
 rw [List.mem_singleton.1 hx] at hc
 rw [List.mem_singleton.1 hc]
 exact .c _
theorem take1_at {w0 : World} {E : Env} {y0 y1 : Value} {x : AV} {b o : Bool} {v : Value} {u0 u : FrameMode} (hg : Good w0 E (OutM x b)) (h0 : Rep E (.p 1 0 0 1) y0) (h1 : Rep E (.p 2 0 0 1) y1)
 (hrc : ∀ (c₀ : Frame) cs, c₀.mode = u0 → (recoverD (c₀ :: cs) = none ∧ v = .nilIface ∧ u = u0) ∨ recoverD (c₀ :: cs) = some (v, { c₀ with mode := u } :: cs)) (ho : (v = .nilIface ∧ o = false) ∨ (v = wrongV ∧ o = true)) (hx : UnderL 3 [x]) (hz : o = true → x = zeroK) :
 CallsD Tryz.prog 19 #[y0, y1] u0 E.w (fun e u' w' => e = .returned (.tuple #[]) ∧ u' = u ∧ ∃ E', w' = E'.w ∧ Good w0 E' (OutM (cond o zeroK x) (cond o false b)) ∧ Later E E') := by
 refine callsD_of_wpS Tryz.func19 rfl (fun c₀ cs hu => ?_)
 refine wpS_seq (wpS_region ?_)
 rw [show List.range (Array.size _) = 0 :: 1 :: List.range' 2 6 from rfl]
 refine wS_rec (v := v) (cs' := { c₀ with mode := u } :: cs) rfl rfl (by simp [execOp, resolve, invoke, builtin, Result.andThen]) ?_ ?_
 · rcases hrc c₀ cs hu with ⟨g1, g2, g3⟩ | g
   · exact .inl ⟨g1, g2, by rw [g3, ← hu]⟩
   · exact .inr g
 have hst : St w0 E [] ⟨mkSlots 0 [.p 1 0 0 1, .p 2 0 0 1, .x, .x, .x, .x, .t [.g [], .c (.bool o)]], OutM x b, 11⟩ { tmps := #[y0, y1, undef, undef, undef, v, .tuple #[.agg #[], .bool o], undef, undef, undef, undef], defers := [] } := by
  refine ⟨hg, fun t => ?_, rfl, rfl⟩
  rw [mkSlots_get]
  simp only [Nat.zero_le, if_true, Nat.sub_zero]
  rcases t with _ | _ | _ | _ | _ | _ | _ | t
  · exact h0
  · exact h1
  · exact .x _
  · exact .x _
  · exact .x _
  · exact .x _
  · refine .t _ _ rfl fun i g1 g2 => ?_
    rcases i with _ | _ | i
    · exact .g _ _ rfl fun i g1 _ => absurd g1 (by simp)
    · exact .c _ rfl
    · exact absurd g1 (by simp)
  · exact .x _
 have h5 : (({ tmps := #[y0, y1] ++ Array.replicate 9 undef, defers := [] } : Act).put (some 5) v).eval (.tmp 5) = v := rfl
 refine wS_val (v := .tuple #[.agg #[], .bool o]) rfl rfl (by simp [execOp]; rw [h5, run_ta ho E.w]; simp [Result.andThen]) ?_
 have hhq : ∀ ex E' s' a', St w0 E' [] s' a' → Later E E' → retK Ab.tab Tryz.f19 (fun r M => r = .t [] ∧ memFit M 3 (OutM (cond o zeroK x) (cond o false b)).l) ex s' → bodyPostS Tryz.prog Tryz.f19 c₀ cs (fun e u' w' => e = .returned (.tuple #[]) ∧ u' = u ∧ ∃ E', w' = E'.w ∧ Good w0 E' (OutM (cond o zeroK x) (cond o false b)) ∧ Later E E') ex a' ({ c₀ with mode := u } :: cs) E'.w := by
  rintro ex E' s' a' h2 h3 h4
  cases ex with
  | panic ch => exact h4.elim
  | exit _ => exact h4.elim
  | goto _ => exact h4.elim
  | outgrown => exact h4.elim
  | _ =>
   obtain ⟨r, x', g1, g2, g3, g4⟩ := results_run tabOk h2 h4
   rw [g3] at g2
   refine ⟨h2.d, u, rfl, r, g1, ?_, rfl, E'.keep (fun i => ((OutM (cond o zeroK x) (cond o false b)).get i).isSome) 3, rfl, h2.g.keep g4, h3.keep' _ ?_⟩
   · cases g2 with
     | t _ ys h _ =>
      have : ys = #[] := by simpa using h
      rw [this]
   · have := hg.k
     simp only [OutM] at this
     omega
 have key := part_S (P := Tryz.prog) tabOk hst 2 4 1 2 7 3 (retK Ab.tab Tryz.f19 (fun r M => r = .t [] ∧ memFit M 3 (OutM (cond o zeroK x) (cond o false b)).l))
 refine key _ _ _ _ _ ?o _ ?hl ?he ?hn ?hm ?hg ?ho ?hd ?ho2 ?hop ?hk ?hq
 case ho => rfl
 case hl => rfl
 case hq => exact hhq
 case he => rfl
 case hn => rfl
 case hm => rfl
 case hg => simp
 case hd => rfl
 case ho2 => rfl
 case hop =>
  intro E a h1 h2
  have := store0 (P := Tryz.prog) (t := 53) (tabOk 53 _ rfl).run_size h1 h2
  simp only [Array.getD_eq_getD_getElem?] at this
  simp [execOp, Act.eval, Result.andThen, this]
 case hk =>
  simp only [List.drop, List.take, mkSlots, OutM]
  cases o
  · simp only [↓wt, wz, reduceAdd, reduceMul, reduceEqDiff, reduceLeDiff, Nat.reduceLT, reduceLE, reduceLT, reduceEq, reduceNe, Tryz.results19]
    exact ⟨⟨by decide, rfl, hx⟩, ⟨by decide, rfl, under_cells1⟩, trivial⟩
  · rw [hz rfl]
    simp only [zeroK]
    simp only [↓wt, wz, reduceAdd, reduceMul, reduceEqDiff, reduceLeDiff, Nat.reduceLT, reduceLE, reduceLT, reduceEq, reduceNe, Tryz.results19]
    exact ⟨⟨by decide, rfl, zeroK_under⟩, ⟨by decide, rfl, under_cells1⟩, trivial⟩
end Go.Ab
namespace Go.Ab
open Go Go.Proofs Go.RowKit
variable {pf : Value → Mem → Prop}
noncomputable def takeK (may : BookD → Bool) (c : Conf) (w : Int) (s : List UInt8) : BookD × Bool :=
 match bookP c w s with
 | some (k, []) => if may k = true then (k, true) else (k00, false)
 | _ => (k00, false)
theorem book_cells {k : BookD} {n : Nat} : ∀ c ∈ (BookV k).cells, Under n c := fun c hc => by
 simp only [BookV, AV.cells, List.mem_cons, List.not_mem_nil, or_false] at hc
 rcases hc with rfl | rfl | rfl | rfl | rfl | rfl | rfl | rfl | rfl | rfl | rfl | rfl
 all_goals first | exact .c _ | (rw [under_l]; first | (rw [underL_R]; trivial) | (rw [underL_Q]; trivial) | (rw [underL_U]; trivial) | (rw [underL_N]; trivial) | (rw [underL_O]; trivial) | (rw [underL_I]; trivial))
theorem book_under {k : BookD} {n : Nat} : UnderL n [BookV k] := under_cells book_cells
theorem pureR_book (k : BookD) : PureR (BookV k) := ⟨fun _ => rfl, fun n c hc => by
 simp only [BookV, List.mem_cons, List.not_mem_nil, or_false] at hc
 rcases hc with rfl | rfl | rfl | rfl | rfl | rfl | rfl | rfl | rfl | rfl | rfl | rfl
 all_goals first | exact .c _ | exact .l _ _ (pureR _) | exact .l _ _ (pureQ _) | exact .l _ _ (pureU _) | exact .l _ _ (pureN _) | exact .l _ _ (pureO _) | exact .l _ _ (pureI _)⟩
theorem rep_nilL {E : Env} {n : Nat} {v : Value} (h : Rep E (.c (.slice none 0 0)) v) : Rep E (.l n []) v := by
 cases h
 exact .l0 _ _ _
theorem take_lend {c : Conf} {w : Int} {s : List UInt8} {M : Mem} {K : AV → Mem → Prop} {pf : Value → Mem → Prop} (hl : s.length ≤ 1000000000) (a : Nat) (ha : M.get a = some (RkB s)) (hp : ∀ k, bookP c w s = none → pf wrongV ⟨(M.without [a]).l, k⟩)
 (hK : bookP c w s = some (pv (bookP c w) s, ps (bookP c w) s) → K (BookV (pv (bookP c w) s)) ⟨putAll (rnI [a] M.k) (M.without [a]).l [(0, RkB (ps (bookP c w) s))], M.k⟩) :
 ICallG pf Tryz.prog 20 [.p a 0 0 1, ConfA c, .c (.int .i64 w)] M K :=
 icall_lendT (pf' := fun x _ => x = wrongV ∧ bookP c w s = none) (G := bookP c w s = some (pv (bookP c w) s, ps (bookP c w) s)) [a] [RkB s] (bkbook_call c w s hl (fun h _ => ⟨rfl, h⟩) (fun _ _ _ h => h)) (by simp) ⟨⟨by rw [ha, rn_Rk], hd_Rk⟩, trivial⟩
  ⟨.inl ⟨rfl, show 0 < 1 by decide⟩, argsF_pure (fun a ha => by
   simp only [List.mem_cons, List.not_mem_nil, or_false] at ha
   rcases ha with rfl | rfl
   · exact under_flat (cs := [.int .i64 c.n, .int .i64 c.q, .int .i64 c.r, .int .i64 c.p, .int .i64 c.k, .int .i64 c.c])
   · exact .c _)⟩ ((pureR_book _).2 _) ⟨hd_Rk, trivial⟩ (fun hG => by rw [(pureR_book _).1]; exact hK hG) (fun x M' k ⟨h1, h2⟩ => h1 ▸ hp k h2)
def zK (x : AV) (b : Bool) (k : BookD × Bool) : Prop := (x = BookV k.1 ∧ b = true ∧ k.2 = true) ∨ (x = zeroK ∧ b = false ∧ k = (k00, false))
theorem rep_zeroK {E : Env} {v : Value} (h : Rep E zeroK v) : Rep E (BookV k00) v := by
 cases h with
 | g _ ys hs hr =>
  refine .g _ _ hs fun i h1 h2 => ?_
  have := hr i h1 h2
  simp only [BookV, k00, aud00, List.length_cons, List.length_nil] at h1
  rcases i with _ | _ | _ | _ | _ | _ | _ | _ | _ | _ | _ | _ | i
  all_goals first | exact this | exact rep_nilL this | (exact absurd h1 (by omega))
set_option maxHeartbeats 4000000 in
theorem booktake_call (may : BookD → Bool) (c : Conf) (w : Int) (s : List UInt8) (hl : s.length ≤ 1000000000) (hM : ∀ k, bookP c w s = some (k, []) → PCall Tryz.prog 13 [ConfA c, .c (.int .i64 w), BookV k] (.c (.bool (may k)))) :
 PCall Tryz.prog 7 [ConfA c, .c (.int .i64 w), .l 1 (s.map encB)] (.t [BookV (takeK may c w s).1, .c (.bool (takeK may c w s).2)]) := by
 refine ⟨⟨Tryz.f7, Tryz.func7, rfl, rfl⟩, fun w0 E vs hg hs hrep => calls_of_wp_defers Tryz.func7 rfl ?_⟩
 have hst := st_init (fn := Tryz.f7) hg hs (by rw [Tryz.ntmps7]; simp) hrep
 have hk3 : E.k ≤ 3 := by have := hg.k; simp only at this; omega
 refine Code.wp_mono (Q := fun ex a' w' => ∃ E' x b, w' = E'.w ∧ Later E E' ∧ Good w0 E' (OutM x b) ∧ (∃ y0 y1, a'.defers = [{ target := .fn (.func 19) #[y0, y1], args := #[] }] ∧ Rep E' (.p 1 0 0 1) y0 ∧ Rep E' (.p 2 0 0 1) y1) ∧ Rep E' (.p 1 0 0 1) (a'.tmps.getD 6 undef) ∧ Rep E' (.p 2 0 0 1) (a'.tmps.getD 7 undef) ∧ a'.tmps.size = 33 ∧
  ((ex = .ret ∧ zK x b (takeK may c w s)) ∨ (ex = .panic [{ v := wrongV, recovered := false }] ∧ x = zeroK ∧ b = false ∧ takeK may c w s = (k00, false)))) ?_ (wpIn_wide.1 (?_ : Code.wpIn (FF none) 0 Tryz.prog _ _ _ E.w))
 · rintro ex a' w' ⟨E', x, b, rfl, hl1, g, ⟨y0, y1, hd, r0, r1⟩, r6, r7, hsz, hx⟩
   have hfin : ∀ (u : FrameMode) (v : Value) (o : Bool) (u0 : FrameMode) (x1 : AV) (b1 : Bool), u0 ≠ .run → settle u = .returning → (∀ (c₀ : Frame) cs, c₀.mode = u0 → (recoverD (c₀ :: cs) = none ∧ v = .nilIface ∧ u = u0) ∨ recoverD (c₀ :: cs) = some (v, { c₀ with mode := u } :: cs)) → ((v = .nilIface ∧ o = false) ∨ (v = wrongV ∧ o = true)) → (o = true → x = zeroK) →
    UnderL 3 [x] → cond o zeroK x = x1 → cond o false b = b1 → zK x1 b1 (takeK may c w s) → Leaves Tryz.prog Tryz.f7 a'.tmps (fun e w' => (∃ v E' M' a, e = .returned v ∧ E'.w = w' ∧ Good w0 E' M' ∧ Later E E' ∧ Rep E' a v ∧ Exp M' a (.t [BookV (takeK may c w s).1, .c (.bool (takeK may c w s).2)])) ∨ ∃ x, e = .panicked [{ v := x, recovered := false }] ∧ PanOut NoP w0 E x w') a'.defers u0 E'.w := by
    intro u v o u0 x1 b1 hu0 hset hrc ho hz hux e1 e2 hzk
    rw [hd]
    refine ⟨hu0, .func 19, #[y0, y1], 19, #[y0, y1], rfl, by simp [invoke, Result.andThen], (take1_at g r0 r1 hrc ho hux hz).mono ?_⟩
    rintro e u' w2 ⟨rfl, rfl, E2, rfl, g2, l2⟩
    show Leaves Tryz.prog Tryz.f7 a'.tmps _ [] (settle u') E2.w
    rw [hset, e1, e2] at *
    have st : St w0 E2 a'.defers ⟨[(6, .p 1 0 0 1), (7, .p 2 0 0 1)], OutM x1 b1, 33⟩ a' := by
     refine ⟨g2, fun t => ?_, hsz, rfl⟩
     by_cases h6 : t = 6
     · subst h6; exact r6.later l2
     · by_cases h7 : t = 7
       · subst h7; exact r7.later l2
       · have : Slots.get [(6, .p 1 0 0 1), (7, .p 2 0 0 1)] t = .x := by
          simp [Slots.get, assoc, beq_ne (Ne.symm h6), beq_ne (Ne.symm h7)]
         rw [this]
         exact .x _
    have hres : resK Ab.tab [(6, .p 1 0 0 1), (7, .p 2 0 0 1)] (OutM x1 b1) (oneK fun a => a = .t [x1, .c (.bool b1)]) Tryz.f7.results.toList := by
     rcases hzk with ⟨rfl, rfl, h⟩ | ⟨rfl, rfl, h⟩
     · simp only [OutM, BookV]
       simp only [↓wt, wz, reduceAdd, reduceMul, reduceEqDiff, reduceLeDiff, Nat.reduceLT, reduceLE, reduceLT, reduceEq, reduceNe, Tryz.results7]
     · simp only [OutM, zeroK]
       simp only [↓wt, wz, reduceAdd, reduceMul, reduceEqDiff, reduceLeDiff, Nat.reduceLT, reduceLE, reduceLT, reduceEq, reduceNe, Tryz.results7]
    obtain ⟨v, x', q1, q2, rfl⟩ := results_run tabOk st hres
    have hu0' : Under 0 (.t [BookV (takeK may c w s).1, .c (.bool (takeK may c w s).2)]) := by
     rw [under_t]
     intro a ha
     simp only [List.mem_cons, List.not_mem_nil, or_false] at ha
     rcases ha with rfl | rfl
     · exact arg_book (M := ⟨[], 0⟩) (ids := []) |>.2.2.2
     · exact .c _
    refine ⟨v, q1, .inl ⟨v, E2, _, _, rfl, rfl, g2, hl1.trans l2, ?_, exp_self hu0'⟩⟩
    rcases hzk with ⟨rfl, rfl, h⟩ | ⟨rfl, rfl, h⟩
    · rw [h]
      exact q2
    · rw [h]
      cases q2 with
      | t _ ys hs hr =>
       refine .t _ _ hs fun i h1 h2 => ?_
       rcases i with _ | _ | i
       · exact rep_zeroK (hr 0 (by simp) h2)
       · exact hr 1 (by simp) h2
       · exact absurd h1 (by simp)
   rcases hx with ⟨rfl, hx⟩ | ⟨rfl, rfl, rfl, hx⟩
   · refine hfin .returning .nilIface false .returning x b (by simp) rfl (fun c₀ cs h => .inl ⟨by simp [recoverD, h], rfl, rfl⟩) (.inl ⟨rfl, rfl⟩) (by simp) ?_ rfl rfl hx
     rcases hx with ⟨rfl, _⟩ | ⟨rfl, _⟩
     · exact book_under
     · exact zeroK_under
   · exact hfin (.panicking [{ v := wrongV, recovered := true }]) wrongV true (.panicking [{ v := wrongV, recovered := false }]) zeroK false (by simp) (by simp [settle]) (fun c₀ cs h => .inr (by simp [recoverD, h])) (.inr ⟨rfl, rfl⟩) (fun _ => rfl) zeroK_under rfl rfl (.inr ⟨rfl, rfl, hx⟩)
 simp only [Tryz.ntmps7, ConfA, mkSlots] at hst ⊢
 refine region_plain tabOk hst (S1 := ?S1) ?h1 ?h2
 case h1 => 
  simp only [↓wt, wz, reduceAdd, reduceMul, reduceEqDiff, reduceLeDiff, Nat.reduceLT, reduceLE, reduceLT, reduceEq, reduceNe]
  rfl
 intro E1 a1 st1 l1
 refine region_defer tabOk st1 _ _ (S1 := ?S2) 10 19 (.p 1 0 0 1) (.p 2 0 0 1) #[] rfl rfl rfl rfl rfl ?b1 ?b2 ?b3
 case b1 => 
  simp only [↓wt, wz, reduceAdd, reduceMul, reduceEqDiff, reduceLeDiff, Nat.reduceLT, reduceLE, reduceLT, reduceEq, reduceNe]
  rfl
 case b2 => rfl
 intro E2 a2 y0 y1 st2 l2 r0 r1
 refine region_plain tabOk st2 (S1 := ?S3) ?c1 ?c2
 case c1 => 
  simp only [↓wt, wz, reduceAdd, reduceMul, reduceEqDiff, reduceLeDiff, Nat.reduceLT, reduceLE, reduceLT, reduceEq, reduceNe]
  rfl
 intro E3 a3 st3 l3
 refine region_die (pf := fun x M => x = wrongV ∧ bookP c w s = none ∧ memFit M 3 (OutM zeroK false).l) (K := fun ex s' => ex = .ret ∧ Slots.get s'.sl 6 = .p 1 0 0 1 ∧ Slots.get s'.sl 7 = .p 2 0 0 1 ∧ s'.N = 33 ∧ ∃ x b, memFit s'.m 3 (OutM x b).l ∧ zK x b (takeK may c w s)) tabOk st3 [_, _, _] [_, _] _ ?S4 rfl (by simp) rfl ?d1 ?d2 ?d3 ?d4
 case d1 =>
  simp only [↓wt, wz, reduceAdd, reduceMul, reduceEqDiff, reduceLeDiff, Nat.reduceLT, reduceLE, reduceLT, reduceEq, reduceNe]
  rfl
 case d2 =>
  simp only [↓wt, wz, reduceAdd, reduceMul, reduceEqDiff, reduceLeDiff, Nat.reduceLT, reduceLE, reduceLT, reduceEq, reduceNe, wpn]
  refine take_lend hl 3 rfl (fun k h => ⟨rfl, h, ⟨by decide, rfl, zeroK_under⟩, ⟨by decide, rfl, under_cells1⟩, trivial⟩) fun hG => ?_
  generalize hk : pv (bookP c w) s = k at *
  generalize hr : ps (bookP c w) s = r at *
  simp only [BookV, RkB, Bs]
  rcases r with _ | ⟨y, r⟩
  · have f0 : decide ((0 : Int) > 0) = false := rfl
    simp only [↓wt, wz, reduceAdd, reduceMul, reduceEqDiff, reduceLeDiff, Nat.reduceLT, reduceLE, reduceLT, reduceEq, reduceNe, wpn, f0, rnI, nblt, rn0, rnC, rnE, rnR, rnB, putAll, Nat.reduceSub, Nat.sub_zero, Nat.not_lt_zero, Nat.zero_sub, Nat.sub_self, rn_I, rn_B]
    refine icall_drop [] (hM k hG) ⟨arg_conf', arg_c, arg_book, trivial⟩ (.c _) ?_
    cases hm : may k
    · simp only [↓wt, wz, reduceAdd, reduceMul, reduceEqDiff, reduceLeDiff, Nat.reduceLT, reduceLE, reduceLT, reduceEq, reduceNe, wpn, hm, rnI, nblt, rn0, rnC, rnE, rnR, rnB, putAll, Nat.reduceSub, Nat.sub_zero, Nat.not_lt_zero, Nat.zero_sub, Nat.sub_self, rn_I, rn_B]
      exact ⟨_, _, ⟨⟨by decide, rfl, zeroK_under⟩, ⟨by decide, rfl, under_cells1⟩, trivial⟩, .inr ⟨rfl, rfl, by simp [takeK, hG, hm]⟩⟩
    · simp only [↓wt, wz, reduceAdd, reduceMul, reduceEqDiff, reduceLeDiff, Nat.reduceLT, reduceLE, reduceLT, reduceEq, reduceNe, wpn, hm, rnI, nblt, rn0, rnC, rnE, rnR, rnB, putAll, Nat.reduceSub, Nat.sub_zero, Nat.not_lt_zero, Nat.zero_sub, Nat.sub_self, rn_I, rn_B]
      exact ⟨_, _, ⟨⟨by decide, rfl, book_under⟩, ⟨by decide, rfl, under_cells1⟩, trivial⟩, .inl ⟨by simp [takeK, hG, hm]; rfl, rfl, by simp [takeK, hG, hm]⟩⟩
  · have f0 : decide (((r.length + 1 : Nat) : Int) > 0) = true := decide_eq_true (by omega)
    simp only [↓wt, wz, reduceAdd, reduceMul, reduceEqDiff, reduceLeDiff, Nat.reduceLT, reduceLE, reduceLT, reduceEq, reduceNe, wpn, f0, rnI, nblt, rn0, rnC, rnE, rnR, rnB, putAll, Nat.reduceSub, Nat.sub_zero, Nat.not_lt_zero, Nat.zero_sub, Nat.sub_self, rn_I, rn_B]
    exact ⟨_, _, ⟨⟨by decide, rfl, zeroK_under⟩, ⟨by decide, rfl, under_cells1⟩, trivial⟩, .inr ⟨rfl, rfl, by simp [takeK, hG]⟩⟩
 case d3 =>
  rintro ex E' s' a' st l ⟨rfl, h6, h7, h8, x, b, h9, h10⟩
  have l2' := l3.trans l
  have q6 := st.r 6
  have q7 := st.r 7
  rw [h6] at q6
  rw [h7] at q7
  exact ⟨E'.keep (fun i => ((OutM x b).get i).isSome) 3, x, b, rfl, (((l1.trans l2).trans l3).trans l).keep' _ hk3, st.g.keep h9, ⟨y0, y1, st.d, (r0.later l2').keep (.p _ _ _ _ (by decide)), (r1.later l2').keep (.p _ _ _ _ (by decide))⟩, q6.keep (.p _ _ _ _ (by decide)), q7.keep (.p _ _ _ _ (by decide)), st.n.trans h8, .inl ⟨rfl, h10⟩⟩
 case d4 =>
  rintro x E' a' M' st l ⟨rfl, h1, h2⟩
  have l2' := l3.trans l
  have q6 : Rep E' (.p 1 0 0 1) (a'.tmps.getD 6 undef) := st.r 6
  have q7 : Rep E' (.p 2 0 0 1) (a'.tmps.getD 7 undef) := st.r 7
  exact ⟨E'.keep (fun i => ((OutM zeroK false).get i).isSome) 3, zeroK, false, rfl, (((l1.trans l2).trans l3).trans l).keep' _ hk3, st.g.keep h2, ⟨y0, y1, st.d, (r0.later l2').keep (.p _ _ _ _ (by decide)), (r1.later l2').keep (.p _ _ _ _ (by decide))⟩, q6.keep (.p _ _ _ _ (by decide)), q7.keep (.p _ _ _ _ (by decide)), st.n, .inr ⟨rfl, rfl, rfl, by simp [takeK, h1]⟩⟩
end Go.Ab
namespace Go.Ab
open Go Go.Proofs Go.RowKit
def Amt (a : Int) : Prop := 1 ≤ a ∧ a ≤ 1099511627776
instance (a : Int) : Decidable (Amt a) := by unfold Amt; infer_instance
def OwnS (c : Conf) (who t w : Int) : Prop := MaySt t w c.n ∧ w = who
instance (c : Conf) (who t w : Int) : Decidable (OwnS c who t w) := by unfold OwnS; infer_instance
def OutOk (c : Conf) (who ck : Int) (x : OutD) : Prop := OwnS c who x.t x.w ∧ x.t ≤ ck ∧ (x.c = 0 ∨ x.c = 7)
instance (c : Conf) (who ck : Int) (x : OutD) : Decidable (OutOk c who ck x) := by unfold OutOk; infer_instance
theorem amount_call (a : Int) : PCall Tryz.prog 78 [.c (.int .i64 a)] (.c (.bool (decide (Amt a)))) := by
 refine pcall_body tabOk Tryz.func78 rfl rfl (by rw [Tryz.ntmps78]; simp) ?_
 simp only [Tryz.ntmps78]
 simp only [↓wt, wz, reduceAdd, reduceMul, reduceEqDiff, reduceLeDiff, Nat.reduceLT, reduceLE, reduceLT, reduceEq, reduceNe]
 repeat' (first | ((first | refine r_casesD (fun hp hb => ?_) (fun hp hb => ?_) | refine r_casesN (fun hp hb => ?_) (fun hp hb => ?_) | refine r_casesM (fun hp hb => ?_) (fun hp hb => ?_) | refine r_casesB (fun hp hb => ?_) (fun hp hb => ?_) | refine r_gcasesD (fun hp hb => ?_) (fun hp hb => ?_) | refine r_gcasesN (fun hp hb => ?_) (fun hp hb => ?_) | refine r_gcasesM (fun hp hb => ?_) (fun hp hb => ?_) | refine r_gcasesB (fun hp hb => ?_) (fun hp hb => ?_)) <;> simp only [↓wt, wz, reduceAdd, reduceMul, reduceEqDiff, reduceLeDiff, Nat.reduceLT, reduceLE, reduceLT, reduceEq, reduceNe, Tryz.results78, hb]) | ((with_reducible refine And.intro ?_ ?_); omega) | fail)
 all_goals first | exact exp_bT (p := Amt a) (by unfold Amt; omega) | exact exp_bE (by unfold Amt; omega) | exact exp_bF (p := Amt a) (by unfold Amt; omega)
theorem lown_call (c : Conf) (who t w : Int) : PCall Tryz.prog 77 [ConfA c, .c (.int .i64 who), StA t w] (.c (.bool (decide (OwnS c who t w)))) := by
 refine pcall_body tabOk Tryz.func77 rfl rfl (by rw [Tryz.ntmps77]; simp) ?_
 simp only [Tryz.ntmps77, ConfA, StA]
 simp only [↓wt, wz, reduceAdd, reduceMul, reduceEqDiff, reduceLeDiff, Nat.reduceLT, reduceLE, reduceLT, reduceEq, reduceNe]
 refine icall_drop [] (stmay_call t w c.n) ⟨arg_st, arg_c, trivial⟩ (.c _) ?_
 simp only [↓wt, wz, reduceAdd, reduceMul, reduceEqDiff, reduceLeDiff, Nat.reduceLT, reduceLE, reduceLT, reduceEq, reduceNe]
 repeat' (first | ((first | refine r_casesD (fun hp hb => ?_) (fun hp hb => ?_) | refine r_casesN (fun hp hb => ?_) (fun hp hb => ?_) | refine r_casesM (fun hp hb => ?_) (fun hp hb => ?_) | refine r_casesB (fun hp hb => ?_) (fun hp hb => ?_) | refine r_gcasesD (fun hp hb => ?_) (fun hp hb => ?_) | refine r_gcasesN (fun hp hb => ?_) (fun hp hb => ?_) | refine r_gcasesM (fun hp hb => ?_) (fun hp hb => ?_) | refine r_gcasesB (fun hp hb => ?_) (fun hp hb => ?_)) <;> simp only [↓wt, wz, reduceAdd, reduceMul, reduceEqDiff, reduceLeDiff, Nat.reduceLT, reduceLE, reduceLT, reduceEq, reduceNe, Tryz.results77, hb]) | ((with_reducible refine And.intro ?_ ?_); omega) | fail)
 · exact exp_bE ⟨fun h => ⟨by assumption, h⟩, fun h => h.2⟩
 · exact exp_bF (p := OwnS c who t w) fun h => by obtain ⟨g1, g2⟩ := h; contradiction
theorem bthere_call (c : Conf) (who : Int) : PCall Tryz.prog 41 [ConfA c, .c (.int .i64 who)] (.c (.bool (decide (ThereC c who)))) := by
 refine pcall_body tabOk Tryz.func41 rfl rfl (by rw [Tryz.ntmps41]; simp) ?_
 simp only [Tryz.ntmps41, ConfA]
 simp only [↓wt, wz, reduceAdd, reduceMul, reduceEqDiff, reduceLeDiff, Nat.reduceLT, reduceLE, reduceLT, reduceEq, reduceNe]
 refine icall_drop [] (rtmay_call c) ⟨arg_conf', trivial⟩ (.c _) ?_
 simp only [↓wt, wz, reduceAdd, reduceMul, reduceEqDiff, reduceLeDiff, Nat.reduceLT, reduceLE, reduceLT, reduceEq, reduceNe]
 repeat' (first | ((first | refine r_casesD (fun hp hb => ?_) (fun hp hb => ?_) | refine r_casesN (fun hp hb => ?_) (fun hp hb => ?_) | refine r_casesM (fun hp hb => ?_) (fun hp hb => ?_) | refine r_casesB (fun hp hb => ?_) (fun hp hb => ?_) | refine r_gcasesD (fun hp hb => ?_) (fun hp hb => ?_) | refine r_gcasesN (fun hp hb => ?_) (fun hp hb => ?_) | refine r_gcasesM (fun hp hb => ?_) (fun hp hb => ?_) | refine r_gcasesB (fun hp hb => ?_) (fun hp hb => ?_)) <;> simp only [↓wt, wz, reduceAdd, reduceMul, reduceEqDiff, reduceLeDiff, Nat.reduceLT, reduceLE, reduceLT, reduceEq, reduceNe, Tryz.results41, hb]) | ((with_reducible refine And.intro ?_ ?_); omega) | fail)
 · exact exp_bE ⟨fun h => ⟨by assumption, by unfold There; omega⟩, fun h => h.2.2⟩
 all_goals exact exp_bF (p := ThereC c who) fun h => by obtain ⟨g1, g2⟩ := h; unfold There at g2; first | omega | contradiction
theorem boutcome_call (c : Conf) (who ck : Int) (x : OutD) : PCall Tryz.prog 46 [ConfA c, .c (.int .i64 who), .c (.int .i64 ck), OutA x] (.c (.bool (decide (OutOk c who ck x)))) := by
 refine pcall_body tabOk Tryz.func46 rfl rfl (by rw [Tryz.ntmps46]; simp) ?_
 simp only [Tryz.ntmps46, ConfA, OutA]
 simp only [↓wt, wz, reduceAdd, reduceMul, reduceEqDiff, reduceLeDiff, Nat.reduceLT, reduceLE, reduceLT, reduceEq, reduceNe]
 refine icall_drop [] (stmay_call x.t x.w c.n) ⟨arg_st, arg_c, trivial⟩ (.c _) ?_
 simp only [↓wt, wz, reduceAdd, reduceMul, reduceEqDiff, reduceLeDiff, Nat.reduceLT, reduceLE, reduceLT, reduceEq, reduceNe]
 repeat' (first | ((first | refine r_casesD (fun hp hb => ?_) (fun hp hb => ?_) | refine r_casesN (fun hp hb => ?_) (fun hp hb => ?_) | refine r_casesM (fun hp hb => ?_) (fun hp hb => ?_) | refine r_casesB (fun hp hb => ?_) (fun hp hb => ?_) | refine r_gcasesD (fun hp hb => ?_) (fun hp hb => ?_) | refine r_gcasesN (fun hp hb => ?_) (fun hp hb => ?_) | refine r_gcasesM (fun hp hb => ?_) (fun hp hb => ?_) | refine r_gcasesB (fun hp hb => ?_) (fun hp hb => ?_)) <;> simp only [↓wt, wz, reduceAdd, reduceMul, reduceEqDiff, reduceLeDiff, Nat.reduceLT, reduceLE, reduceLT, reduceEq, reduceNe, Tryz.results46, hb]) | ((with_reducible refine And.intro ?_ ?_); omega) | fail)
 all_goals first
  | exact exp_bT (p := OutOk c who ck x) ⟨⟨by assumption, by omega⟩, by omega, by omega⟩
  | exact exp_bE ⟨fun h => ⟨⟨by assumption, by omega⟩, by omega, by omega⟩, fun h => by obtain ⟨⟨g1, g2⟩, g3, g4⟩ := h; omega⟩
  | exact exp_bF (p := OutOk c who ck x) fun h => by obtain ⟨⟨g1, g2⟩, g3, g4⟩ := h; first | omega | contradiction
def reqAt (l : List ReqD) (i : Nat) : ReqD := l.getD i default
theorem elem_Q {l : List ReqD} {i : Nat} {K : AV → Prop} : Elem (l.map ReqA) i K = (i < l.length ∧ K (ReqA (reqAt l i))) := elem_map _
theorem ReqA_eq {r : ReqD} : ReqA r = .g [.c (.int .i64 r.t), .c (.int .i64 r.w), .c (.int .i64 r.a)] := rfl
end Go.Ab
namespace Go.Ab
open Go Go.Proofs Go.RowKit
def OneQ (c : Conf) (who : Int) (x : ReqD) : Prop := OwnS c who x.t x.w ∧ Amt x.a
instance (c : Conf) (who : Int) (x : ReqD) : Decidable (OneQ c who x) := by unfold OneQ; infer_instance
def LineOk (c : Conf) (who : Int) (l : List ReqD) (i : Nat) : Prop := OneQ c who (reqAt l i) ∧ (0 < i → Old (reqAt l (i - 1)).t (reqAt l (i - 1)).w (reqAt l i).t (reqAt l i).w)
instance (c : Conf) (who : Int) (l : List ReqD) (i : Nat) : Decidable (LineOk c who l i) := by unfold LineOk; infer_instance
def Mq (c : Conf) (who : Int) (l : List ReqD) : Mem := ⟨[(0, ⟨23, 6, [.g [.c (.int .i64 c.n), .c (.int .i64 c.q), .c (.int .i64 c.r), .c (.int .i64 c.p), .c (.int .i64 c.k), .c (.int .i64 c.c)]]⟩), (1, ⟨3, 1, [.c (.int .i64 who)]⟩), (2, ⟨27, 1, [.l 3 (l.map ReqA)]⟩)], 3⟩
set_option maxHeartbeats 2000000 in
theorem linef_call (c : Conf) (who : Int) (l : List ReqD) (i : Nat) (hi : i < l.length) (hl : l.length ≤ 1000000000) :
 ICall Tryz.prog 76 [.c (.int .i64 i), .p 0 0 0 1, .p 1 0 0 1, .p 2 0 0 1] (Mq c who l) (fun a M' => a = .c (.bool (decide (¬ LineOk c who l i))) ∧ M' = Mq c who l) := by
 refine icall_body tabOk Tryz.func76 rfl rfl (by rw [Tryz.ntmps76]; simp) (aw_sound tabOk _ _ _ ?_)
 simp only [Tryz.ntmps76, Mq]
 simp only [↓wt, wz, reduceAdd, reduceMul, reduceEqDiff, reduceLeDiff, Nat.reduceLT, reduceLE, reduceLT, reduceEq, reduceNe]
 refine draw_rule tabOk mixed [2, 2, 2, 0, 2, 0, 2, 3, 0, 0, 2, 0, 2, 0, 2, 3, 0, 0, 0, 0, 0, 0, 2, 0, 0, 2, 0, 2, 2, 0, 2, 0, 2, 3, 0, 0, 0, 0] [[], [], [], [], [2, 3], [2, 3, 4], [2, 3, 4, 5], [0, 1, 2, 3, 4, 5, 6], [0, 1, 2, 3, 4, 5, 6, 7], [0, 1, 2, 3, 4, 5, 6, 7, 8], [0, 1, 2, 3, 4, 5, 6, 7, 8, 9], [0, 1, 2, 3, 4, 5, 6, 7, 8, 9], [0, 1, 2, 3, 4, 5, 6, 7, 8, 9, 10, 11], [0, 1, 2, 3, 4, 5, 6, 7, 8, 9, 10, 11, 12], [0, 1, 2, 3, 4, 5, 6, 7, 8, 9, 10, 11, 12, 13], [0, 1, 2, 3, 4, 5, 6, 7, 8, 9, 10, 11, 12, 13, 14], [0, 1, 2, 3, 4, 5, 6, 7, 8, 9, 10, 11, 12, 13, 14, 15], [0, 1, 2, 3, 4, 5, 6, 7, 8, 9, 10, 11, 12, 13, 14, 15, 16], [0, 1, 2, 3, 4, 5, 6, 7, 8, 9, 10, 11, 12, 13, 14, 15, 16, 17], [0, 1, 2, 3, 4, 5, 6, 7, 8, 9, 10, 11, 12, 13, 14, 15, 16, 17, 18], [0, 1, 2, 3, 4, 5, 6, 7, 8, 9, 10, 11, 12, 13, 14, 15, 16, 17, 18, 19], [0, 1, 2, 3, 4, 5, 6, 7, 8, 9, 10, 11, 12, 13, 14, 15, 16, 17, 18, 19, 20], [0, 1, 2, 3, 4, 5, 6, 7, 8, 9, 10, 11, 12, 13, 14, 15, 16, 17, 18, 19, 20, 21], [0, 1, 2, 3, 4, 5, 6, 7, 8, 9, 10, 11, 12, 13, 14, 15, 16, 17, 18, 19, 20, 21], [0, 1, 2, 3, 4, 5, 6, 7, 8, 9, 10, 11, 12, 13, 14, 15, 16, 17, 18, 19, 20, 21, 23], [0, 1, 2, 3, 4, 5, 6, 7, 8, 9, 10, 11, 12, 13, 14, 15, 16, 17, 18, 19, 20, 21, 22, 23, 24], [0, 1, 2, 3, 4, 5, 6, 7, 8, 9, 10, 11, 12, 13, 14, 15, 16, 17, 18, 19, 20, 21, 22, 23, 24, 25], [0, 1, 2, 3, 4, 5, 6, 7, 8, 9, 10, 11, 12, 13, 14, 15, 16, 17, 18, 19, 20, 21, 22, 23, 24, 25, 26], [0, 1, 2, 3, 4, 5, 6, 7, 8, 9, 10, 11, 12, 13, 14, 15, 16, 17, 18, 19, 20, 21], [0, 1, 2, 3, 4, 5, 6, 7, 8, 9, 10, 11, 12, 13, 14, 15, 16, 17, 18, 19, 20, 21], [0, 1, 2, 3, 4, 5, 6, 7, 8, 9, 10, 11, 12, 13, 14, 15, 16, 17, 18, 19, 20, 21, 28, 29], [0, 1, 2, 3, 4, 5, 6, 7, 8, 9, 10, 11, 12, 13, 14, 15, 16, 17, 18, 19, 20, 21, 28, 29, 30], [0, 1, 2, 3, 4, 5, 6, 7, 8, 9, 10, 11, 12, 13, 14, 15, 16, 17, 18, 19, 20, 21, 28, 29, 30, 31], [0, 1, 2, 3, 4, 5, 6, 7, 8, 9, 10, 11, 12, 13, 14, 15, 16, 17, 18, 19, 20, 21, 22, 23, 24, 25, 26, 27, 28, 29, 30, 31, 32], [0, 1, 2, 3, 4, 5, 6, 7, 8, 9, 10, 11, 12, 13, 14, 15, 16, 17, 18, 19, 20, 21, 22, 23, 24, 25, 26, 27, 28, 29, 30, 31, 32, 33], [0, 1, 2, 3, 4, 5, 6, 7, 8, 9, 10, 11, 12, 13, 14, 15, 16, 17, 18, 19, 20, 21, 22, 23, 24, 25, 26, 27, 28, 29, 30, 31, 32, 33, 34], [0, 1, 2, 3, 4, 5, 6, 7, 8, 9, 10, 11, 12, 13, 14, 15, 16, 17, 18, 19, 20, 21, 22, 23, 24, 25, 26, 27, 28, 29, 30, 31, 32, 33, 34, 35], [0, 1, 2, 3, 4, 5, 6, 7, 8, 9, 10, 11, 12, 13, 14, 15, 16, 17, 18, 19, 20, 21, 22, 23, 24, 25, 26, 27, 28, 29, 30, 31, 32, 33, 34, 35, 36]] (by kernel_rfl) ?_
 simp (maxSteps := 10000000) only [↓wt, wz, reduceAdd, reduceMul, reduceEqDiff, reduceLeDiff, Nat.reduceLT, reduceLE, reduceLT, reduceEq, reduceNe, elem_Q, ReqA_eq]
 repeat (refine And.intro (by omega) ?_)
 refine d_pureC (r := .c (.bool (decide (OwnS c who (reqAt l i).t (reqAt l i).w)))) (fun M0 => icall_drop [] (lown_call c who _ _) ⟨arg_conf', arg_c, arg_st, trivial⟩ (.c _) ⟨rfl, rfl⟩) ?_
 cases e1 : decide (OwnS c who (reqAt l i).t (reqAt l i).w)
 · simp (maxSteps := 10000000) only [↓wt, wz, reduceAdd, reduceMul, reduceEqDiff, reduceLeDiff, Nat.reduceLT, reduceLE, reduceLT, reduceEq, reduceNe, e1, elem_Q, ReqA_eq, Tryz.results76]
   have : ¬ LineOk c who l i := fun h => of_decide_eq_false e1 h.1.1
   simp [this]
 simp (maxSteps := 10000000) only [↓wt, wz, reduceAdd, reduceMul, reduceEqDiff, reduceLeDiff, Nat.reduceLT, reduceLE, reduceLT, reduceEq, reduceNe, e1, elem_Q, ReqA_eq]
 repeat (refine And.intro (by omega) ?_)
 refine d_pureC (r := .c (.bool (decide (Amt (reqAt l i).a)))) (fun M0 => icall_drop [] (amount_call _) ⟨arg_c, trivial⟩ (.c _) ⟨rfl, rfl⟩) ?_
 cases e2 : decide (Amt (reqAt l i).a)
 · simp (maxSteps := 10000000) only [↓wt, wz, reduceAdd, reduceMul, reduceEqDiff, reduceLeDiff, Nat.reduceLT, reduceLE, reduceLT, reduceEq, reduceNe, e2, elem_Q, ReqA_eq, Tryz.results76]
   have : ¬ LineOk c who l i := fun h => of_decide_eq_false e2 h.1.2
   simp [this]
 cases e3 : decide ((i : Int) > 0)
 · simp (maxSteps := 10000000) only [↓wt, wz, reduceAdd, reduceMul, reduceEqDiff, reduceLeDiff, Nat.reduceLT, reduceLE, reduceLT, reduceEq, reduceNe, e2, e3, elem_Q, ReqA_eq, Tryz.results76]
   have : LineOk c who l i := ⟨⟨of_decide_eq_true e1, of_decide_eq_true e2⟩, fun h => absurd (of_decide_eq_false e3) (by omega)⟩
   simp [this]
 have h3 : 0 < i := by have := of_decide_eq_true e3; omega
 have e4 : IntKind.i64.wrap ((i : Int) - 1) = ((i - 1 : Nat) : Int) := by rw [IntKind.wrap_i64]; omega
 simp (maxSteps := 10000000) only [↓wt, wz, reduceAdd, reduceMul, reduceEqDiff, reduceLeDiff, Nat.reduceLT, reduceLE, reduceLT, reduceEq, reduceNe, e2, e3, e4, elem_Q, ReqA_eq]
 repeat (refine And.intro (by omega) ?_)
 refine d_pureC (r := .c (.bool (decide (Old (reqAt l (i - 1)).t (reqAt l (i - 1)).w (reqAt l i).t (reqAt l i).w)))) (fun M0 => icall_drop [] (older_call _ _ _ _) ⟨arg_st, arg_st, trivial⟩ (.c _) ⟨rfl, rfl⟩) ?_
 simp (maxSteps := 10000000) only [↓wt, wz, reduceAdd, reduceMul, reduceEqDiff, reduceLeDiff, Nat.reduceLT, reduceLE, reduceLT, reduceEq, reduceNe, e2, e3, elem_Q, ReqA_eq, Tryz.results76]
 have : LineOk c who l i ↔ Old (reqAt l (i - 1)).t (reqAt l (i - 1)).w (reqAt l i).t (reqAt l i).w := ⟨fun h => h.2 h3, fun h => ⟨⟨of_decide_eq_true e1, of_decide_eq_true e2⟩, fun _ => h⟩⟩
 simp [this]
theorem under_q3 {f : FuncId} : Under 3 (.f f [.p 0 0 0 1, .p 1 0 0 1, .p 2 0 0 1]) := .f _ _ fun i hi => by
 rcases i with _ | _ | _ | i
 · exact .p _ _ _ _ (by decide)
 · exact .p _ _ _ _ (by decide)
 · exact .p _ _ _ _ (by decide)
 · exact absurd hi (by simp)
def MayL (c : Conf) (who : Int) (l : List ReqD) : Prop := ThereC c who ∧ (l.length : Int) ≤ c.q ∧ ∀ i, i < l.length → LineOk c who l i
instance (c : Conf) (who : Int) (l : List ReqD) : Decidable (MayL c who l) := by unfold MayL; infer_instance
set_option maxHeartbeats 2000000 in
theorem lmay_call (c : Conf) (who : Int) (l : List ReqD) (hl : l.length ≤ 1000000000) : PCall Tryz.prog 43 [ConfA c, .c (.int .i64 who), .l 3 (l.map ReqA)] (.c (.bool (decide (MayL c who l)))) := by
 refine pcall_body tabOk Tryz.func43 rfl rfl (by rw [Tryz.ntmps43]; simp) ?_
 simp only [Tryz.ntmps43, ConfA]
 simp only [↓wt, wz, reduceAdd, reduceMul, reduceEqDiff, reduceLeDiff, Nat.reduceLT, reduceLE, reduceLT, reduceEq, reduceNe]
 refine icall_drop [] (rtmay_call c) ⟨arg_conf', trivial⟩ (.c _) ?_
 simp only [↓wt, wz, reduceAdd, reduceMul, reduceEqDiff, reduceLeDiff, Nat.reduceLT, reduceLE, reduceLT, reduceEq, reduceNe]
 repeat' (first | ((first | refine r_casesD (fun hp hb => ?_) (fun hp hb => ?_) | refine r_casesN (fun hp hb => ?_) (fun hp hb => ?_) | refine r_casesM (fun hp hb => ?_) (fun hp hb => ?_) | refine r_casesB (fun hp hb => ?_) (fun hp hb => ?_) | refine r_gcasesD (fun hp hb => ?_) (fun hp hb => ?_) | refine r_gcasesN (fun hp hb => ?_) (fun hp hb => ?_) | refine r_gcasesM (fun hp hb => ?_) (fun hp hb => ?_) | refine r_gcasesB (fun hp hb => ?_) (fun hp hb => ?_)) <;> simp only [↓wt, wz, reduceAdd, reduceMul, reduceEqDiff, reduceLeDiff, Nat.reduceLT, reduceLE, reduceLT, reduceEq, reduceNe, Tryz.results43, hb]) | ((with_reducible refine And.intro ?_ ?_); omega) | fail)
 all_goals first | exact exp_bF (p := MayL c who l) (fun h => by obtain ⟨⟨g1, g4⟩, g2, g3⟩ := h; unfold There at g4; first | omega | contradiction) | skip
 have ht : ThereC c who := ⟨by assumption, by unfold There; omega⟩
 have hql : (l.length : Int) ≤ c.q := by omega
 refine loop_ruleC tabOk [7, 31] (fun k : Nat => [(32, .c (.int .i64 k))]) (fun k => k ≤ l.length ∧ ∀ j, j < k → LineOk c who l j) (fun k => l.length - k) 0 ⟨by omega, fun j h => by omega⟩ ?_ ?_
 · simp only [↓wt, wz, wkf, reduceAdd, reduceMul, reduceEqDiff, reduceLeDiff, Nat.reduceLT, reduceLE, reduceLT, reduceEq, reduceNe, underL_Q]
   exact under_q3
 · rintro k ⟨hk, hG⟩
   simp only [↓wt, wz, reduceAdd, reduceMul, reduceEqDiff, reduceLeDiff, Nat.reduceLT, reduceLE, reduceLT, reduceEq, reduceNe]
   repeat' (first | ((first | refine r_casesD (fun hp hb => ?_) (fun hp hb => ?_) | refine r_casesN (fun hp hb => ?_) (fun hp hb => ?_) | refine r_casesM (fun hp hb => ?_) (fun hp hb => ?_) | refine r_casesB (fun hp hb => ?_) (fun hp hb => ?_) | refine r_gcasesD (fun hp hb => ?_) (fun hp hb => ?_) | refine r_gcasesN (fun hp hb => ?_) (fun hp hb => ?_) | refine r_gcasesM (fun hp hb => ?_) (fun hp hb => ?_) | refine r_gcasesB (fun hp hb => ?_) (fun hp hb => ?_)) <;> simp only [↓wt, wz, reduceAdd, reduceMul, reduceEqDiff, reduceLeDiff, Nat.reduceLT, reduceLE, reduceLT, reduceEq, reduceNe, hb]) | ((with_reducible refine And.intro ?_ ?_); omega) | fail)
   · have hkl : k < l.length := by omega
     have e3 := wi_succ (k := k) (by omega)
     refine ICall.mono (linef_call c who l k hkl hl) ?_
     rintro a M' ⟨rfl, rfl⟩
     simp only [Mq]
     cases e1 : decide (¬ LineOk c who l k)
     · simp only [↓wt, wz, reduceAdd, reduceMul, reduceEqDiff, reduceLeDiff, Nat.reduceLT, reduceLE, reduceLT, reduceEq, reduceNe, e3]
       refine ⟨k + 1, ⟨by omega, fun j hj => ?_⟩, by omega, ?_⟩
       · rcases Nat.lt_or_ge j k with h | h
         · exact hG j h
         · have : j = k := by omega
           subst this
           exact Decidable.not_not.1 (of_decide_eq_false e1)
       · simp only [↓wt, wz, wkf, reduceAdd, reduceMul, reduceEqDiff, reduceLeDiff, Nat.reduceLT, reduceLE, reduceLT, reduceEq, reduceNe, e3, underL_Q]
         exact under_q3
     · simp only [↓wt, wz, reduceAdd, reduceMul, reduceEqDiff, reduceLeDiff, Nat.reduceLT, reduceLE, reduceLT, reduceEq, reduceNe, Tryz.results43]
       exact exp_bF (p := MayL c who l) fun h => of_decide_eq_true e1 (h.2.2 k hkl)
   · simp only [↓wt, wz, reduceAdd, reduceMul, reduceEqDiff, reduceLeDiff, Nat.reduceLT, reduceLE, reduceLT, reduceEq, reduceNe, Tryz.results43]
     exact exp_bT (p := MayL c who l) ⟨ht, hql, fun j hj => hG j (by omega)⟩
end Go.Ab
namespace Go.Ab
open Go Go.Proofs Go.RowKit
def outAt (l : List OutD) (i : Nat) : OutD := l.getD i default
theorem elem_U {l : List OutD} {i : Nat} {K : AV → Prop} : Elem (l.map OutA) i K = (i < l.length ∧ K (OutA (outAt l i))) := elem_map _
theorem OutA_eq {r : OutD} : OutA r = .g [.c (.int .i64 r.t), .c (.int .i64 r.w), .c (.int .i64 r.c)] := rfl
theorem indexQ_at (f : FuncId) (caps : List AV) (M0 : Mem) (p : ReqD → Bool) (l : List ReqD) (hl : l.length ≤ 1000000000) (hu : Under M0.k (.f f caps)) (hM : memFit M0 M0.k M0.l) (hf : ∀ x, ICall Tryz.prog f (ReqA x :: caps) M0 (fun a M' => a = .c (.bool (p x)) ∧ M' = M0)) :
 ICall Tryz.prog 81 [.l 3 (l.map ReqA), .f f caps] M0 (fun a M' => a = .c (.int .i64 (idxA p l 0)) ∧ M' = M0) := by
 refine icall_body tabOk Tryz.func81 rfl rfl (by rw [Tryz.ntmps81]; simp) (aw_sound tabOk _ _ _ ?_)
 simp only [Tryz.ntmps81]
 simp only [↓wt, wz, reduceAdd, reduceMul, reduceEqDiff, reduceLeDiff, Nat.reduceLT, reduceLE, reduceLT, reduceEq, reduceNe]
 refine loop_ruleC tabOk [0, 1, 7] (fun k : Nat => [(8, .c (.int .i64 k))]) (fun k => k ≤ l.length ∧ ∀ n, n < k → p (l.getD n default) = false) (fun k => l.length - k) 0 ⟨by omega, fun n h => by omega⟩ ?_ ?_
 · simp only [↓wt, wz, wkf, reduceAdd, reduceMul, reduceEqDiff, reduceLeDiff, Nat.reduceLT, reduceLE, reduceLT, reduceEq, reduceNe, underL_Q]
   exact ⟨hu, hM⟩
 · rintro k ⟨h1, h2⟩
   simp only [↓wt, wz, reduceAdd, reduceMul, reduceEqDiff, reduceLeDiff, Nat.reduceLT, reduceLE, reduceLT, reduceEq, reduceNe]
   repeat' (first | ((first | refine r_casesD (fun hp hb => ?_) (fun hp hb => ?_) | refine r_casesN (fun hp hb => ?_) (fun hp hb => ?_) | refine r_casesM (fun hp hb => ?_) (fun hp hb => ?_) | refine r_casesB (fun hp hb => ?_) (fun hp hb => ?_) | refine r_gcasesD (fun hp hb => ?_) (fun hp hb => ?_) | refine r_gcasesN (fun hp hb => ?_) (fun hp hb => ?_) | refine r_gcasesM (fun hp hb => ?_) (fun hp hb => ?_) | refine r_gcasesB (fun hp hb => ?_) (fun hp hb => ?_)) <;> simp only [↓wt, wz, reduceAdd, reduceMul, reduceEqDiff, reduceLeDiff, Nat.reduceLT, reduceLE, reduceLT, reduceEq, reduceNe, hb]) | ((with_reducible refine And.intro ?_ ?_); omega) | fail)
   · have hkl : k < l.length := by omega
     have e1 := wi_succ (k := k) (by omega)
     simp only [↓wt, wz, reduceAdd, reduceMul, reduceEqDiff, reduceLeDiff, Nat.reduceLT, reduceLE, reduceLT, reduceEq, reduceNe, elem_Q, ReqA_eq]
     repeat (refine And.intro (by omega) ?_)
     refine ICall.mono (hf (reqAt l k)) ?_
     rintro a M' ⟨rfl, rfl⟩
     cases f1 : p (reqAt l k) with
     | true =>
      simp only [↓wt, wz, reduceAdd, reduceMul, reduceEqDiff, reduceLeDiff, Nat.reduceLT, reduceLE, reduceLT, reduceEq, reduceNe, f1, Tryz.results81]
      rw [idxA_at (d := default) l k 0 (by omega) h2 f1, Nat.zero_add]
     | false =>
      simp only [↓wt, wz, reduceAdd, reduceMul, reduceEqDiff, reduceLeDiff, Nat.reduceLT, reduceLE, reduceLT, reduceEq, reduceNe, f1, e1]
      refine ⟨k + 1, ⟨by omega, fun n hn => ?_⟩, by omega, ?_⟩
      · rcases Nat.lt_or_ge n k with h | h
        · exact h2 n h
        · have : n = k := by omega
          subst this; exact f1
      · simp only [↓wt, wz, wkf, reduceAdd, reduceMul, reduceEqDiff, reduceLeDiff, Nat.reduceLT, reduceLE, reduceLT, reduceEq, reduceNe, e1, underL_Q]
        exact ⟨hu, hM⟩
   · simp only [↓wt, wz, reduceAdd, reduceMul, reduceEqDiff, reduceLeDiff, Nat.reduceLT, reduceLE, reduceLT, reduceEq, reduceNe, Tryz.results81]
     rw [idxA_none (d := default) l 0 fun j hj => h2 j (by omega)]
theorem containsQ_at (f : FuncId) (caps : List AV) (M0 : Mem) (p : ReqD → Bool) (l : List ReqD) (hl : l.length ≤ 1000000000) (hu : Under M0.k (.f f caps)) (hM : memFit M0 M0.k M0.l) (hf : ∀ x, ICall Tryz.prog f (ReqA x :: caps) M0 (fun a M' => a = .c (.bool (p x)) ∧ M' = M0)) :
 ICall Tryz.prog 47 [.l 3 (l.map ReqA), .f f caps] M0 (fun a M' => a = .c (.bool (l.any p)) ∧ M' = M0) := by
 refine icall_body tabOk Tryz.func47 rfl rfl (by rw [Tryz.ntmps47]; simp) (aw_sound tabOk _ _ _ ?_)
 simp only [Tryz.ntmps47]
 simp only [↓wt, wz, reduceAdd, reduceMul, reduceEqDiff, reduceLeDiff, Nat.reduceLT, reduceLE, reduceLT, reduceEq, reduceNe]
 refine ICall.mono (indexQ_at f caps M0 p l hl hu hM hf) ?_
 rintro a M' ⟨rfl, rfl⟩
 simp only [↓wt, wz, reduceAdd, reduceMul, reduceEqDiff, reduceLeDiff, Nat.reduceLT, reduceLE, reduceLT, reduceEq, reduceNe, idxA_any, Tryz.results47]
theorem indexU_at (f : FuncId) (caps : List AV) (M0 : Mem) (p : OutD → Bool) (l : List OutD) (hl : l.length ≤ 1000000000) (hu : Under M0.k (.f f caps)) (hM : memFit M0 M0.k M0.l) (hf : ∀ x, ICall Tryz.prog f (OutA x :: caps) M0 (fun a M' => a = .c (.bool (p x)) ∧ M' = M0)) :
 ICall Tryz.prog 82 [.l 3 (l.map OutA), .f f caps] M0 (fun a M' => a = .c (.int .i64 (idxA p l 0)) ∧ M' = M0) := by
 refine icall_body tabOk Tryz.func82 rfl rfl (by rw [Tryz.ntmps82]; simp) (aw_sound tabOk _ _ _ ?_)
 simp only [Tryz.ntmps82]
 simp only [↓wt, wz, reduceAdd, reduceMul, reduceEqDiff, reduceLeDiff, Nat.reduceLT, reduceLE, reduceLT, reduceEq, reduceNe]
 refine loop_ruleC tabOk [0, 1, 7] (fun k : Nat => [(8, .c (.int .i64 k))]) (fun k => k ≤ l.length ∧ ∀ n, n < k → p (l.getD n default) = false) (fun k => l.length - k) 0 ⟨by omega, fun n h => by omega⟩ ?_ ?_
 · simp only [↓wt, wz, wkf, reduceAdd, reduceMul, reduceEqDiff, reduceLeDiff, Nat.reduceLT, reduceLE, reduceLT, reduceEq, reduceNe, underL_U]
   exact ⟨hu, hM⟩
 · rintro k ⟨h1, h2⟩
   simp only [↓wt, wz, reduceAdd, reduceMul, reduceEqDiff, reduceLeDiff, Nat.reduceLT, reduceLE, reduceLT, reduceEq, reduceNe]
   repeat' (first | ((first | refine r_casesD (fun hp hb => ?_) (fun hp hb => ?_) | refine r_casesN (fun hp hb => ?_) (fun hp hb => ?_) | refine r_casesM (fun hp hb => ?_) (fun hp hb => ?_) | refine r_casesB (fun hp hb => ?_) (fun hp hb => ?_) | refine r_gcasesD (fun hp hb => ?_) (fun hp hb => ?_) | refine r_gcasesN (fun hp hb => ?_) (fun hp hb => ?_) | refine r_gcasesM (fun hp hb => ?_) (fun hp hb => ?_) | refine r_gcasesB (fun hp hb => ?_) (fun hp hb => ?_)) <;> simp only [↓wt, wz, reduceAdd, reduceMul, reduceEqDiff, reduceLeDiff, Nat.reduceLT, reduceLE, reduceLT, reduceEq, reduceNe, hb]) | ((with_reducible refine And.intro ?_ ?_); omega) | fail)
   · have hkl : k < l.length := by omega
     have e1 := wi_succ (k := k) (by omega)
     simp only [↓wt, wz, reduceAdd, reduceMul, reduceEqDiff, reduceLeDiff, Nat.reduceLT, reduceLE, reduceLT, reduceEq, reduceNe, elem_U, OutA_eq]
     repeat (refine And.intro (by omega) ?_)
     refine ICall.mono (hf (outAt l k)) ?_
     rintro a M' ⟨rfl, rfl⟩
     cases f1 : p (outAt l k) with
     | true =>
      simp only [↓wt, wz, reduceAdd, reduceMul, reduceEqDiff, reduceLeDiff, Nat.reduceLT, reduceLE, reduceLT, reduceEq, reduceNe, f1, Tryz.results82]
      rw [idxA_at (d := default) l k 0 (by omega) h2 f1, Nat.zero_add]
     | false =>
      simp only [↓wt, wz, reduceAdd, reduceMul, reduceEqDiff, reduceLeDiff, Nat.reduceLT, reduceLE, reduceLT, reduceEq, reduceNe, f1, e1]
      refine ⟨k + 1, ⟨by omega, fun n hn => ?_⟩, by omega, ?_⟩
      · rcases Nat.lt_or_ge n k with h | h
        · exact h2 n h
        · have : n = k := by omega
          subst this; exact f1
      · simp only [↓wt, wz, wkf, reduceAdd, reduceMul, reduceEqDiff, reduceLeDiff, Nat.reduceLT, reduceLE, reduceLT, reduceEq, reduceNe, e1, underL_U]
        exact ⟨hu, hM⟩
   · simp only [↓wt, wz, reduceAdd, reduceMul, reduceEqDiff, reduceLeDiff, Nat.reduceLT, reduceLE, reduceLT, reduceEq, reduceNe, Tryz.results82]
     rw [idxA_none (d := default) l 0 fun j hj => h2 j (by omega)]
theorem containsU_at (f : FuncId) (caps : List AV) (M0 : Mem) (p : OutD → Bool) (l : List OutD) (hl : l.length ≤ 1000000000) (hu : Under M0.k (.f f caps)) (hM : memFit M0 M0.k M0.l) (hf : ∀ x, ICall Tryz.prog f (OutA x :: caps) M0 (fun a M' => a = .c (.bool (p x)) ∧ M' = M0)) :
 ICall Tryz.prog 48 [.l 3 (l.map OutA), .f f caps] M0 (fun a M' => a = .c (.bool (l.any p)) ∧ M' = M0) := by
 refine icall_body tabOk Tryz.func48 rfl rfl (by rw [Tryz.ntmps48]; simp) (aw_sound tabOk _ _ _ ?_)
 simp only [Tryz.ntmps48]
 simp only [↓wt, wz, reduceAdd, reduceMul, reduceEqDiff, reduceLeDiff, Nat.reduceLT, reduceLE, reduceLT, reduceEq, reduceNe]
 refine ICall.mono (indexU_at f caps M0 p l hl hu hM hf) ?_
 rintro a M' ⟨rfl, rfl⟩
 simp only [↓wt, wz, reduceAdd, reduceMul, reduceEqDiff, reduceLeDiff, Nat.reduceLT, reduceLE, reduceLT, reduceEq, reduceNe, idxA_any, Tryz.results48]
end Go.Ab
namespace Go.Ab
open Go Go.Proofs Go.RowKit
def Mb (c : Conf) (who : Int) (k : BookD) : Mem := ⟨[(0, ⟨23, 6, [.g [.c (.int .i64 c.n), .c (.int .i64 c.q), .c (.int .i64 c.r), .c (.int .i64 c.p), .c (.int .i64 c.k), .c (.int .i64 c.c)]]⟩), (1, ⟨3, 1, [.c (.int .i64 who)]⟩), (2, ⟨37, 12, [.g [.c (.int .i64 k.ck), .l 3 (k.r.map RowV), .l 3 (k.l.map ReqA), .l 3 (k.o.map OutA), .c (.int .i64 k.k), .l 7 (k.n.map NoteV), .c (.int .i64 k.a.y), .c (.int .i64 k.a.p), .l 1 (k.a.told.map encO), .l 1 (k.a.use.map encI), .l 1 (k.a.inc.map encI), .c (.bool k.a.mv)]]⟩)], 3⟩
theorem conf_under {c : Conf} {n : Nat} : UnderL n [.g [.c (.int .i64 c.n), .c (.int .i64 c.q), .c (.int .i64 c.r), .c (.int .i64 c.p), .c (.int .i64 c.k), .c (.int .i64 c.c)]] := under_cells fun x hx => by
 simp only [List.mem_cons, List.not_mem_nil, or_false] at hx
 rcases hx with rfl | rfl | rfl | rfl | rfl | rfl <;> exact .c _
theorem int_under {v : Int} {n : Nat} : UnderL n [.c (.int .i64 v)] := underL_mem fun x hx c hc => by
 rw [List.mem_singleton.1 hx] at hc
 rw [List.mem_singleton.1 hc]
 exact .c _
theorem mb_fit {c : Conf} {who : Int} {k : BookD} : memFit (Mb c who k) (Mb c who k).k (Mb c who k).l := ⟨⟨show 0 < 3 by decide, rfl, conf_under⟩, ⟨show 1 < 3 by decide, rfl, int_under⟩, ⟨show 2 < 3 by decide, rfl, book_under (k := k)⟩, trivial⟩
theorem mayf1_call (c : Conf) (who : Int) (k : BookD) (x : ReqD) : ICall Tryz.prog 44 [ReqA x, .p 2 0 0 1] (Mb c who k) (fun a M' => a = .c (.bool (decide (x.t > k.ck))) ∧ M' = Mb c who k) := by
 refine ICallG.trim (icall_body tabOk Tryz.func44 rfl rfl (by rw [Tryz.ntmps44]; simp) (aw_sound tabOk _ _ _ ?_))
 simp only [Tryz.ntmps44, ReqA, Mb]
 simp only [↓wt, wz, reduceAdd, reduceMul, reduceEqDiff, reduceLeDiff, Nat.reduceLT, reduceLE, reduceLT, reduceEq, reduceNe, Tryz.results44]
 exact ⟨Mb c who k, show 3 ≤ 3 by decide, .c _, ⟨⟨show 0 < 3 by decide, rfl, conf_under⟩, ⟨show 1 < 3 by decide, rfl, int_under⟩, ⟨show 2 < 3 by decide, rfl, book_under (k := k)⟩, trivial⟩, rfl⟩
theorem mayf2_call (c : Conf) (who : Int) (k : BookD) (x : OutD) : ICall Tryz.prog 45 [OutA x, .p 0 0 0 1, .p 1 0 0 1, .p 2 0 0 1] (Mb c who k) (fun a M' => a = .c (.bool (decide (¬ OutOk c who k.ck x))) ∧ M' = Mb c who k) := by
 refine ICallG.trim (icall_body tabOk Tryz.func45 rfl rfl (by rw [Tryz.ntmps45]; simp) (aw_sound tabOk _ _ _ ?_))
 simp only [Tryz.ntmps45, OutA, Mb]
 simp only [↓wt, wz, reduceAdd, reduceMul, reduceEqDiff, reduceLeDiff, Nat.reduceLT, reduceLE, reduceLT, reduceEq, reduceNe]
 refine icall_drop [] (boutcome_call c who k.ck x) ⟨arg_conf', arg_c, arg_c, arg_pure ⟨argC_c, argC_c, argC_c, trivial⟩, trivial⟩ (.c _) ?_
 simp only [↓wt, wz, reduceAdd, reduceMul, reduceEqDiff, reduceLeDiff, Nat.reduceLT, reduceLE, reduceLT, reduceEq, reduceNe, Tryz.results45]
 exact ⟨Mb c who k, show 3 ≤ 3 by decide, .c _, ⟨⟨show 0 < 3 by decide, rfl, conf_under⟩, ⟨show 1 < 3 by decide, rfl, int_under⟩, ⟨show 2 < 3 by decide, rfl, book_under (k := k)⟩, trivial⟩, by simp, rfl⟩
def BLens (k : BookD) : Prop := Lens k.r ∧ k.l.length ≤ 1000000000 ∧ k.o.length ≤ 1000000000 ∧ k.n.length ≤ 1000000000 ∧ LenA k.a
def MayK (c : Conf) (who : Int) (k : BookD) : Prop := ThereC c who ∧ (0 ≤ k.ck ∧ k.ck ≤ 1125899906842624) ∧ RightB c k.r ∧ MayL c who k.l ∧ (k.o.length : Int) ≤ c.q + 1 ∧ (k.l.any (fun x => decide (x.t > k.ck)) = false) ∧ (k.o.any (fun x => decide (¬ OutOk c who k.ck x)) = false) ∧ (0 ≤ k.k ∧ k.k ≤ c.r) ∧ MayN c who k.n ∧ MayA c who k.a ∧ (0 < k.l.length ∨ (k.k = 0 ∧ k.a.told.length = 0))
instance (c : Conf) (who : Int) (k : BookD) : Decidable (MayK c who k) := by unfold MayK; infer_instance
set_option maxHeartbeats 4000000 in
theorem bkmay_call (c : Conf) (who : Int) (k : BookD) (hl : BLens k) : PCall Tryz.prog 13 [ConfA c, .c (.int .i64 who), BookV k] (.c (.bool (decide (MayK c who k)))) := by
 obtain ⟨hl1, hl2, hl3, hl4, hl5⟩ := hl
 refine pcall_body tabOk Tryz.func13 rfl rfl (by rw [Tryz.ntmps13]; simp) ?_
 simp only [Tryz.ntmps13, ConfA, BookV]
 simp only [↓wt, wz, reduceAdd, reduceMul, reduceEqDiff, reduceLeDiff, Nat.reduceLT, reduceLE, reduceLT, reduceEq, reduceNe]
 refine icall_drop [] (bthere_call c who) ⟨arg_conf', arg_c, trivial⟩ (.c _) ?_
 cases e1 : decide (ThereC c who)
 · simp only [↓wt, wz, reduceAdd, reduceMul, reduceEqDiff, reduceLeDiff, Nat.reduceLT, reduceLE, reduceLT, reduceEq, reduceNe, e1, Tryz.results13]
   exact exp_bF (p := MayK c who k) fun h => of_decide_eq_false e1 h.1
 simp only [↓wt, wz, reduceAdd, reduceMul, reduceEqDiff, reduceLeDiff, Nat.reduceLT, reduceLE, reduceLT, reduceEq, reduceNe, e1]
 cases e2 : decide (k.ck < 0)
 rotate_left
 · simp only [↓wt, wz, reduceAdd, reduceMul, reduceEqDiff, reduceLeDiff, Nat.reduceLT, reduceLE, reduceLT, reduceEq, reduceNe, e2, Tryz.results13]
   exact exp_bF (p := MayK c who k) fun h => by have := of_decide_eq_true e2; have := h.2.1; omega
 simp only [↓wt, wz, reduceAdd, reduceMul, reduceEqDiff, reduceLeDiff, Nat.reduceLT, reduceLE, reduceLT, reduceEq, reduceNe, e2]
 cases e3 : decide (k.ck > 1125899906842624)
 rotate_left
 · simp only [↓wt, wz, reduceAdd, reduceMul, reduceEqDiff, reduceLeDiff, Nat.reduceLT, reduceLE, reduceLT, reduceEq, reduceNe, e3, Tryz.results13]
   exact exp_bF (p := MayK c who k) fun h => by have := of_decide_eq_true e3; have := h.2.1; omega
 simp only [↓wt, wz, reduceAdd, reduceMul, reduceEqDiff, reduceLeDiff, Nat.reduceLT, reduceLE, reduceLT, reduceEq, reduceNe, e3]
 refine icall_drop [] (right_call c k.r hl1) ⟨arg_conf', arg_l (pureR _), trivial⟩ (.c _) ?_
 cases e4 : decide (RightB c k.r)
 · simp only [↓wt, wz, reduceAdd, reduceMul, reduceEqDiff, reduceLeDiff, Nat.reduceLT, reduceLE, reduceLT, reduceEq, reduceNe, e4, Tryz.results13]
   exact exp_bF (p := MayK c who k) fun h => of_decide_eq_false e4 h.2.2.1
 simp only [↓wt, wz, reduceAdd, reduceMul, reduceEqDiff, reduceLeDiff, Nat.reduceLT, reduceLE, reduceLT, reduceEq, reduceNe, e4]
 refine icall_drop [] (lmay_call c who k.l hl2) ⟨arg_conf', arg_c, arg_l (pureQ _), trivial⟩ (.c _) ?_
 cases e5 : decide (MayL c who k.l)
 · simp only [↓wt, wz, reduceAdd, reduceMul, reduceEqDiff, reduceLeDiff, Nat.reduceLT, reduceLE, reduceLT, reduceEq, reduceNe, e5, Tryz.results13]
   exact exp_bF (p := MayK c who k) fun h => of_decide_eq_false e5 h.2.2.2.1
 have hm : MayC c := (of_decide_eq_true e1).1
 have e0 : IntKind.i64.wrap (c.q + 1) = c.q + 1 := int_add (by unfold MayC at hm; omega) (by unfold MayC at hm; omega)
 cases e6 : decide ((k.o.length : Int) > c.q + 1)
 rotate_left
 · simp only [↓wt, wz, reduceAdd, reduceMul, reduceEqDiff, reduceLeDiff, Nat.reduceLT, reduceLE, reduceLT, reduceEq, reduceNe, e0, e5, e6, Tryz.results13]
   exact exp_bF (p := MayK c who k) fun h => by have := of_decide_eq_true e6; have := h.2.2.2.2.1; omega
 simp only [↓wt, wz, reduceAdd, reduceMul, reduceEqDiff, reduceLeDiff, Nat.reduceLT, reduceLE, reduceLT, reduceEq, reduceNe, e0, e5, e6]
 refine ICall.mono (containsQ_at 44 [.p 2 0 0 1] (Mb c who k) (fun x => decide (x.t > k.ck)) k.l hl2 (.f _ _ fun i hi => by
  rcases i with _ | i
  · exact .p _ _ _ _ (show 2 < 3 by decide)
  · exact absurd hi (by simp)) mb_fit (mayf1_call c who k)) ?_
 rintro a M' ⟨rfl, rfl⟩
 simp only [Mb]
 cases e7 : k.l.any (fun x => decide (x.t > k.ck))
 rotate_left
 · simp only [↓wt, wz, reduceAdd, reduceMul, reduceEqDiff, reduceLeDiff, Nat.reduceLT, reduceLE, reduceLT, reduceEq, reduceNe, e7, Tryz.results13]
   exact exp_bF (p := MayK c who k) fun h => by have := h.2.2.2.2.2.1; rw [e7] at this; cases this
 simp only [↓wt, wz, reduceAdd, reduceMul, reduceEqDiff, reduceLeDiff, Nat.reduceLT, reduceLE, reduceLT, reduceEq, reduceNe, e7]
 refine ICall.mono (containsU_at 45 [.p 0 0 0 1, .p 1 0 0 1, .p 2 0 0 1] (Mb c who k) (fun x => decide (¬ OutOk c who k.ck x)) k.o hl3 under_q3 mb_fit (mayf2_call c who k)) ?_
 rintro a M' ⟨rfl, rfl⟩
 simp only [Mb]
 cases e8 : k.o.any (fun x => decide (¬ OutOk c who k.ck x))
 rotate_left
 · simp only [↓wt, wz, reduceAdd, reduceMul, reduceEqDiff, reduceLeDiff, Nat.reduceLT, reduceLE, reduceLT, reduceEq, reduceNe, e8, Tryz.results13]
   exact exp_bF (p := MayK c who k) fun h => by have := h.2.2.2.2.2.2.1; rw [e8] at this; cases this
 simp only [↓wt, wz, reduceAdd, reduceMul, reduceEqDiff, reduceLeDiff, Nat.reduceLT, reduceLE, reduceLT, reduceEq, reduceNe, e8]
 cases e9 : decide (k.k < 0)
 rotate_left
 · simp only [↓wt, wz, reduceAdd, reduceMul, reduceEqDiff, reduceLeDiff, Nat.reduceLT, reduceLE, reduceLT, reduceEq, reduceNe, e9, Tryz.results13]
   exact exp_bF (p := MayK c who k) fun h => by have := of_decide_eq_true e9; have := h.2.2.2.2.2.2.2.1; omega
 simp only [↓wt, wz, reduceAdd, reduceMul, reduceEqDiff, reduceLeDiff, Nat.reduceLT, reduceLE, reduceLT, reduceEq, reduceNe, e9]
 cases e10 : decide (k.k > c.r)
 rotate_left
 · simp only [↓wt, wz, reduceAdd, reduceMul, reduceEqDiff, reduceLeDiff, Nat.reduceLT, reduceLE, reduceLT, reduceEq, reduceNe, e10, Tryz.results13]
   exact exp_bF (p := MayK c who k) fun h => by have := of_decide_eq_true e10; have := h.2.2.2.2.2.2.2.1; omega
 simp only [↓wt, wz, reduceAdd, reduceMul, reduceEqDiff, reduceLeDiff, Nat.reduceLT, reduceLE, reduceLT, reduceEq, reduceNe, e10]
 refine icall_drop [] (mayn_call c who k.n hl4) ⟨arg_conf', arg_c, arg_notes, trivial⟩ (.c _) ?_
 cases e11 : decide (MayN c who k.n)
 · simp only [↓wt, wz, reduceAdd, reduceMul, reduceEqDiff, reduceLeDiff, Nat.reduceLT, reduceLE, reduceLT, reduceEq, reduceNe, e11, Tryz.results13]
   exact exp_bF (p := MayK c who k) fun h => of_decide_eq_false e11 h.2.2.2.2.2.2.2.2.1
 simp only [↓wt, wz, reduceAdd, reduceMul, reduceEqDiff, reduceLeDiff, Nat.reduceLT, reduceLE, reduceLT, reduceEq, reduceNe, e11]
 refine icall_drop [] (maya_call c who k.a hl5) ⟨arg_conf', arg_c, arg_aud, trivial⟩ (.c _) ?_
 cases e12 : decide (MayA c who k.a)
 · simp only [↓wt, wz, reduceAdd, reduceMul, reduceEqDiff, reduceLeDiff, Nat.reduceLT, reduceLE, reduceLT, reduceEq, reduceNe, e12, Tryz.results13]
   exact exp_bF (p := MayK c who k) fun h => of_decide_eq_false e12 h.2.2.2.2.2.2.2.2.2.1
 simp only [↓wt, wz, reduceAdd, reduceMul, reduceEqDiff, reduceLeDiff, Nat.reduceLT, reduceLE, reduceLT, reduceEq, reduceNe, e12]
 have hall : (0 < k.l.length ∨ (k.k = 0 ∧ k.a.told.length = 0)) → MayK c who k := fun h => ⟨of_decide_eq_true e1, ⟨by have := of_decide_eq_false e2; omega, by have := of_decide_eq_false e3; omega⟩, of_decide_eq_true e4, of_decide_eq_true e5, by have := of_decide_eq_false e6; omega, e7, e8, ⟨by have := of_decide_eq_false e9; omega, by have := of_decide_eq_false e10; omega⟩, of_decide_eq_true e11, of_decide_eq_true e12, h⟩
 repeat' (first | ((first | refine r_casesD (fun hp hb => ?_) (fun hp hb => ?_) | refine r_casesN (fun hp hb => ?_) (fun hp hb => ?_) | refine r_casesM (fun hp hb => ?_) (fun hp hb => ?_) | refine r_casesB (fun hp hb => ?_) (fun hp hb => ?_) | refine r_gcasesD (fun hp hb => ?_) (fun hp hb => ?_) | refine r_gcasesN (fun hp hb => ?_) (fun hp hb => ?_) | refine r_gcasesM (fun hp hb => ?_) (fun hp hb => ?_) | refine r_gcasesB (fun hp hb => ?_) (fun hp hb => ?_)) <;> simp only [↓wt, wz, reduceAdd, reduceMul, reduceEqDiff, reduceLeDiff, Nat.reduceLT, reduceLE, reduceLT, reduceEq, reduceNe, Tryz.results13, hb]) | ((with_reducible refine And.intro ?_ ?_); omega) | fail)
 all_goals first | exact exp_bT (p := MayK c who k) (hall (by omega)) | exact exp_bE ⟨fun h => hall (by omega), fun h => by have := h.2.2.2.2.2.2.2.2.2.2; omega⟩ | exact exp_bF (p := MayK c who k) (fun h => by have := h.2.2.2.2.2.2.2.2.2.2; omega)
end Go.Ab
