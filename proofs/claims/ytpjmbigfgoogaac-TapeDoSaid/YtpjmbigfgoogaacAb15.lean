/- Loops: what is kept at a loop's head. -/
import Derived.Test.YtpjmbigfgoogaacAb14
import Derived.Deep.LoopGhost
set_option linter.unusedVariables false
set_option linter.unusedSimpArgs false
set_option linter.constructorNameAsVariable false
namespace Go.Ab
open Go Go.RowKit

/-- Of the blocks some are kept. -/
def Env.keep (E : Env) (R : Nat → Bool) (k : Nat) : Env := ⟨E.w, fun i => if R i = true then E.ad i else none, k, E.hid⟩
theorem Rep.keep {E : Env} {R : Nat → Bool} {k : Nat} {a : AV} {v : Value} (hr : Rep E a v) (hu : Under k a) : Rep (E.keep R k) a v := by
  have hz : ∀ b, E.Z b → (E.keep R k).Z b := fun b h => ⟨h.1, h.2.1, fun i q hq hcp => by
    simp only [Env.keep] at hq
    split at hq
    · exact h.2.2 i q hq hcp
    · cases hq⟩
  have had : ∀ i q, (E.keep R k).ad i = some q → E.ad i = some q := fun i q hq => by
    simp only [Env.keep] at hq
    split at hq
    · exact hq
    · cases hq
  induction hr with
  | c v h => exact .c v h
  | x v => exact .x v
  | g cs ys h hr ih => cases hu with | g _ hu => exact .g cs ys h fun i h1 h2 => ih i h1 h2 (hu i h1)
  | t cs ys h hr ih => cases hu with | t _ hu => exact .t cs ys h fun i h1 h2 => ih i h1 h2 (hu i h1)
  | f fn cs ys h hr ih => cases hu with | f _ _ hu => exact .f fn cs ys h fun i h1 h2 => ih i h1 h2 (hu i h1)
  | l sz xs b off cap y hcap hb hs hc hr ih => cases hu with | l _ _ hu => exact .l sz xs b off cap y hcap (hz b hb) hs hc fun i hi j hj => ih i hi j hj (hu i hi j hj)
  | l0 sz A cap => exact .l0 sz A cap
  | e cs b off y hb hc hr ih => cases hu with | e _ hu => exact .e cs b off y (hz b hb) hc fun j hj => ih j hj (hu j hj)
  | p id i j n a hk h =>
    cases hu with | p _ _ _ _ hu => exact .p id i j n a hu fun q hq => h q (had _ _ hq)
  | s id off n A cap hk h =>
    cases hu with | s _ _ _ hu => exact .s id off n A cap hu fun q hq => h q (had _ _ hq)

def UnderL (k : Nat) (xs : List AV) : Prop := ∀ i (hi : i < xs.length), ∀ j (hj : j < xs[i].cells.length), Under k xs[i].cells[j]
/-- Slots, and blocks, of which as much as is told is so. -/
def slFit (s : Slots) (k : Nat) : Slots → Prop
  | [] => True
  | (t, a) :: r => (Slots.get s t = a ∧ Under k a) ∧ slFit s k r
def memFit (M : Mem) (k : Nat) : List (Nat × Blk) → Prop
  | [] => True
  | (id, b) :: r => (id < k ∧ M.get id = some b ∧ UnderL k b.xs) ∧ memFit M k r
def Fits (s s' : ASt) : Prop := s'.N = s.N ∧ slFit s.sl s'.m.k s'.sl ∧ memFit s.m s'.m.k s'.m.l
theorem slFit.get {s : Slots} {k : Nat} : ∀ {l : Slots}, slFit s k l → ∀ t, Slots.get l t = .x ∨ (Slots.get l t = Slots.get s t ∧ Under k (Slots.get s t))
  | [], _, t => .inl rfl
  | (t0, a) :: r, h, t => by
    by_cases e : t0 = t
    · subst e
      right
      have : Slots.get ((t0, a) :: r) t0 = a := by simp [Slots.get, assoc]
      rw [this, h.1.1]
      exact ⟨rfl, h.1.2⟩
    · have : Slots.get ((t0, a) :: r) t = Slots.get r t := by simp [Slots.get, assoc, beq_ne e]
      rw [this]
      exact slFit.get h.2 t
theorem memFit.get {M : Mem} {k : Nat} : ∀ {l : List (Nat × Blk)}, memFit M k l → ∀ id b, assoc l id = some b → id < k ∧ M.get id = some b ∧ UnderL k b.xs
  | [], _, id, b, h => by cases h
  | (i0, b0) :: r, h, id, b, he => by
    by_cases e : i0 = id
    · subst e
      simp only [assoc, Nat.beq_refl, cond_true, Option.some.injEq] at he
      subst he
      exact h.1
    · simp only [assoc, beq_ne e, cond_false] at he
      exact memFit.get h.2 id b he

theorem Good.keep {w0 : World} {E : Env} {M M' : Mem} (hg : Good w0 E M) (h : memFit M M'.k M'.l) : Good w0 (E.keep (fun i => (M'.get i).isSome) M'.k) M' := by
  have had : ∀ i q, (E.keep (fun i => (M'.get i).isSome) M'.k).ad i = some q → E.ad i = some q ∧ ∃ b, M'.get i = some b := fun i q hq => by
    simp only [Env.keep] at hq
    split at hq
    · rename_i h; exact ⟨hq, Option.isSome_iff_exists.1 h⟩
    · cases hq
  refine ⟨hg.below, rfl, fun i q hq => ?_, fun i hi => ?_, fun i blk hi => ?_, fun i q hq hcp => hg.hid i q (had i q hq).1 hcp, hg.old, fun i i' q1 q2 hne h1 h2 hc1 hc2 => hg.inj i i' q1 q2 hne (had _ _ h1).1 (had _ _ h2).1 hc1 hc2⟩
  · obtain ⟨_, b, hb⟩ := had i q hq
    exact (h.get i b hb).1
  · simp only [Env.keep, hi]; rfl
  · obtain ⟨g1, g2, g3⟩ := h.get i blk hi
    obtain ⟨q, h1, h2, h3, h4, h5⟩ := hg.held i blk g2
    refine ⟨q, by simp only [Env.keep, hi]; exact h1, h2, h3, h4, fun hcp => ⟨(h5 hcp).1, ?_⟩⟩
    obtain ⟨a0, arr, a1, a2, a3⟩ := (h5 hcp).2
    refine ⟨a0, arr, a1, a2, fun i' hi' => ⟨(a3 i' hi').1, fun j hj => ?_⟩⟩
    obtain ⟨y, b1, b2, b3⟩ := (a3 i' hi').2 j hj
    exact ⟨y, b1, b2, b3.keep (g3 i' hi' j hj)⟩
theorem Later.keep' {E0 E : Env} (h : Later E0 E) (R : Nat → Bool) {k : Nat} (hk : E0.k ≤ k) : Later E0 (E.keep R k) := by
  refine ⟨fun b hb => ⟨⟨(h.z b hb).1.1, (h.z b hb).1.2.1, fun i q hq hcp => ?_⟩, (h.z b hb).2⟩, hk, fun i hi q hq => ?_, h.hid⟩
  · simp only [Env.keep] at hq
    split at hq
    · exact (h.z b hb).1.2.2 i q hq hcp
    · cases hq
  · simp only [Env.keep] at hq
    split at hq
    · exact h.ad i hi q hq
    · cases hq
theorem St.fit {w0 : World} {D : List Deferred} {E0 E : Env} {s s' : ASt} {a : Act} (h : St w0 E D s a) (hf : Fits s s') (hl : Later E0 E) (hk : E0.k ≤ s'.m.k) : ∃ E', E'.w = E.w ∧ St w0 E' D s' a ∧ Later E0 E' := by
  obtain ⟨h1, h2, h3⟩ := hf
  refine ⟨E.keep (fun i => (s'.m.get i).isSome) s'.m.k, rfl, ⟨h.g.keep h3, fun t => ?_, by rw [h1]; exact h.n, h.d⟩, hl.keep' _ hk⟩
  rcases h2.get t with e | ⟨e1, e2⟩
  · rw [e]; exact .x _
  · rw [e1]; exact (h.r t).keep e2

/-- A loop, by what holds at its head. -/
theorem loop_rule' {P : Program} {tab : Tab} (hT : TabOk P tab) {c : Code} {K : Exit → ASt → Prop} {s : ASt} {α : Type} (I : α → ASt) (G : α → Prop) (μ : α → Nat) (x0 : α) (h0 : G x0)
    (hs : Fits s (I x0)) (hk : ∀ y, s.m.k ≤ (I y).m.k)
    (round : ∀ y, G y → aw P tab c (thenK (fun s' => ∃ y', G y' ∧ μ y' < μ y ∧ Fits s' (I y')) K) (I y)) : ACode P (.loop c) K s := by
  intro ro w0 E D a hst
  obtain ⟨E1, e1, hs1, hl1⟩ := hst.fit hs (.refl E) (by rw [← hst.g.k]; exact hk _)
  rw [← e1]
  refine wpIn_loop_ghost (fun n a w => ∃ E' y, E'.w = w ∧ St w0 E' D (I y) a ∧ Later E E' ∧ G y ∧ μ y = n) (μ x0) ⟨E1, x0, rfl, hs1, hl1, h0, rfl⟩ ?_
  rintro n a w ⟨E2, y, rfl, hs2, hl2, hG, rfl⟩
  refine Code.wpIn_mono ?_ (aw_sound hT c _ _ (round y hG) ro w0 E2 D a hs2)
  rintro e a' w' ⟨E3, s3, rfl, hs3, hl3, hK⟩
  cases e with
  | normal =>
    obtain ⟨y', h1, h2, h3⟩ := hK
    obtain ⟨E4, e4, hs4, hl4⟩ := hs3.fit h3 (hl2.trans hl3) (by rw [← hst.g.k]; exact hk _)
    exact ⟨μ y', h2, E4, y', e4, hs4, hl4, h1, rfl⟩
  | _ => exact ⟨E3, s3, rfl, hs3, hl2.trans hl3, hK⟩

theorem loop_rule {P : Program} {tab : Tab} (hT : TabOk P tab) {c : Code} {K : Exit → ASt → Prop} {s : ASt} {α : Type} (I : α → ASt) (G : α → Prop) (μ : α → Nat) (x0 : α) (h0 : G x0)
    (hs : Fits s (I x0)) (hk : ∀ y, (I y).m.k = s.m.k)
    (round : ∀ y, G y → aw P tab c (thenK (fun s' => ∃ y', G y' ∧ μ y' < μ y ∧ Fits s' (I y')) K) (I y)) : ACode P (.loop c) K s :=
  loop_rule' hT I G μ x0 h0 hs (fun y => by rw [hk]; exact Nat.le_refl _) round

/-- Behind a piece of code, what the rest needs. -/
theorem ACode.of_aw {P : Program} {tab : Tab} (hT : TabOk P tab) {c : Code} {K : Exit → ASt → Prop} {s : ASt} (h : aw P tab c K s) : ACode P c K s := aw_sound hT c K s h

/-- What a function hands back. -/
def resK (tab : Tab) (sl : Slots) (M : Mem) (K : List AV → Prop) : List ResultVar → Prop
  | [] => K []
  | .tmp t :: r => resK tab sl M (fun vs => K (Slots.get sl t :: vs)) r
  | .cell d T :: r => tiK tab T fun ti => ti.k.known = true ∧ loadK ti M (Slots.get sl d) fun a _ => resK tab sl M (fun vs => K (a :: vs)) r
def oneK (K : AV → Prop) : List AV → Prop
  | [a] => K a
  | vs => K (.t vs)
def retK (tab : Tab) (fn : Func) (K : AV → Mem → Prop) : Exit → ASt → Prop
  | .normal, s => resK tab s.sl s.m (oneK fun a => K a s.m) fn.results.toList
  | .ret, s => resK tab s.sl s.m (oneK fun a => K a s.m) fn.results.toList
  | _, _ => False
def mkSlots : Nat → List AV → Slots
  | _, [] => []
  | n, a :: r => (n, a) :: mkSlots (n + 1) r
theorem mkSlots_get : ∀ (l : List AV) (n t : Nat), Slots.get (mkSlots n l) t = if n ≤ t then (l[t - n]?).getD .x else .x
  | [], n, t => by simp [mkSlots, Slots.get, assoc]
  | a :: r, n, t => by
    by_cases e : n = t
    · subst e; simp [mkSlots, Slots.get, assoc]
    · have : Slots.get (mkSlots n (a :: r)) t = Slots.get (mkSlots (n + 1) r) t := by simp [mkSlots, Slots.get, assoc, beq_ne e]
      rw [this, mkSlots_get r (n + 1) t]
      by_cases h : n ≤ t
      · rw [if_pos (by omega), if_pos h]
        have : t - n = (t - (n + 1)) + 1 := by omega
        rw [this, List.getElem?_cons_succ]
      · rw [if_neg (by omega), if_neg h]

theorem load_run {P : Program} {w0 : World} {E : Env} {M : Mem} {t : TypeId} {ti : TI} {a : AV} {v : Value} {K : AV → Mem → Prop} (hg : Good w0 E M) (ht : TOk P t ti) (ho : ti.k.known = true)
    (hr : Rep E a v) (h : loadK ti M a K) : ∃ ad u x', v = .pointer (some ad) ∧ (loadVar t ad).run P E.w = .ok u E.w ∧ Rep E x' u ∧ K x' M := by
  cases hr <;> try exact h.elim
  case p id i j n a hk hp =>
    obtain ⟨blk, hM, hn, hs, hj, hi, hK⟩ := h
    obtain ⟨q, h1, h2, h3, h4, h5, h6, hcl, y, _⟩ := own_cell hg hM hi hj
    have ha := (hp q h1).2 (by omega)
    subst ha
    obtain ⟨v, hv, hrv⟩ := load_cells (E := E) (b := q.b) (off := i * q.sz + j) (cs := blk.xs[i].cells.drop j) ht ho (fun k hk => by
      simp only [List.length_drop, hcl] at hk
      obtain ⟨q', g1, g2, g3, g4, g5, g6, _, y, g8, g9, g10⟩ := own_cell hg hM hi (j := j + k) (by omega)
      rw [h1] at g1
      cases g1
      refine ⟨y, by rw [Nat.add_assoc]; exact g8, ?_⟩
      simpa using g10) (by simp [hcl]; omega) (by simp [hcl]; omega)
    exact ⟨_, v, _, rfl, hv, hrv, hK⟩
  case e cs b off y hz hc hr =>
    obtain ⟨hs, h0, hK⟩ := h
    obtain ⟨v, hv, hrv⟩ := load_cells (E := E) (b := b) (off := off) (cs := cs) ht ho (fun k hk => ⟨y k, (hc k hk).1, hr k hk⟩) hs h0
    exact ⟨_, v, _, rfl, hv, hrv, hK⟩

def resOne (tmps : Array Value) : ResultVar → Sem Value
  | .tmp t => pure (tmps.getD t undef)
  | .cell d t => do loadVar t (← asAddr (tmps.getD d undef))
theorem res_run {P : Program} {tab : Tab} (hT : TabOk P tab) {w0 : World} {D : List Deferred} {E : Env} {s : ASt} {a : Act} (h : St w0 E D s a) : ∀ (l : List ResultVar) (K : List AV → Prop), resK tab s.sl s.m K l →
    ∃ vs xs, (l.mapM (resOne a.tmps)).run P E.w = .ok vs E.w ∧ vs.length = xs.length ∧ (∀ i (h1 : i < xs.length) (h2 : i < vs.length), Rep E xs[i] vs[i]) ∧ K xs
  | [], K, hk => ⟨[], [], rfl, rfl, fun i h => absurd h (by simp), hk⟩
  | .tmp t :: r, K, hk => by
    obtain ⟨vs, xs, h1, h2, h3, h4⟩ := res_run hT h r _ hk
    refine ⟨a.tmps.getD t undef :: vs, Slots.get s.sl t :: xs, by simp [List.mapM_cons, resOne, h1, Result.andThen], by simp [h2], fun i g1 g2 => ?_, h4⟩
    cases i with
    | zero => exact h.r t
    | succ i => exact h3 i (by simpa using g1) (by simpa using g2)
  | .cell d T :: r, K, hk => by
    obtain ⟨ti, k1, k2, k3⟩ := hk
    obtain ⟨ad, u, x', e1, e2, e3, e4⟩ := load_run (P := P) h.g (hT _ _ k1) k2 (h.r d) k3
    obtain ⟨vs, xs, h1, h2, h3, h4⟩ := res_run hT h r _ e4
    have hone : (resOne a.tmps (.cell d T)).run P E.w = .ok u E.w := by
      simp only [resOne, Sem.run_bind, e1, asAddr, Sem.run_pure, Result.andThen, e2]
    refine ⟨u :: vs, x' :: xs, by rw [List.mapM_cons]; simp only [Sem.run_bind, hone, Result.andThen, h1, Sem.run_pure], by simp [h2], fun i g1 g2 => ?_, h4⟩
    cases i with
    | zero => exact e3
    | succ i => exact h3 i (by simpa using g1) (by simpa using g2)
theorem results_eq (fn : Func) (tmps : Array Value) : results fn tmps = (do let vs ← fn.results.mapM (resOne tmps); pure (if h : vs.size = 1 then vs[0] else .tuple vs)) := by
  unfold results
  refine congrArg (fun m : Sem (Array Value) => (do let vs ← m; pure (if h : vs.size = 1 then vs[0] else .tuple vs))) ?_
  refine congrArg (fun g : ResultVar → Sem Value => fn.results.mapM g) ?_
  funext z
  cases z <;> rfl
theorem results_run {P : Program} {tab : Tab} (hT : TabOk P tab) {w0 : World} {D : List Deferred} {E : Env} {s : ASt} {a : Act} (h : St w0 E D s a) {fn : Func} {K : AV → Prop} (hk : resK tab s.sl s.m (oneK K) fn.results.toList) :
    ∃ v x', (results fn a.tmps).run P E.w = .ok v E.w ∧ Rep E x' v ∧ K x' := by
  obtain ⟨vs, xs, h1, h2, h3, h4⟩ := res_run hT h fn.results.toList _ hk
  have hm : (fn.results.mapM (resOne a.tmps)).run P E.w = .ok vs.toArray E.w := by
    rw [Array.mapM_eq_mapM_toList]
    simp [h1, Result.andThen]
  have hrun : (results fn a.tmps).run P E.w = .ok (if h : vs.toArray.size = 1 then vs.toArray[0] else .tuple vs.toArray) E.w := by
    rw [results_eq]
    simp only [Sem.run_bind, hm, Result.andThen, Sem.run_pure]
  clear h1 hm
  match xs, vs, h2, h3, h4, hrun with
  | [x'], [v], _, h3, h4, hrun => exact ⟨v, x', by rw [hrun]; rfl, h3 0 (by simp) (by simp), h4⟩
  | [], [], _, h3, h4, hrun => exact ⟨.tuple #[], .t [], by rw [hrun]; rfl, .t [] #[] rfl (fun i h => absurd h (by simp)), h4⟩
  | x' :: y :: xs, v :: u :: vs, h2, h3, h4, hrun =>
    exact ⟨.tuple (v :: u :: vs).toArray, .t (x' :: y :: xs), by rw [hrun]; simp, .t _ _ (by simpa using h2) (fun i g1 g2 => by simpa using h3 i g1 (by simpa using g2)), h4⟩

theorem Calls_body {P : Program} {f : FuncId} {fn : Func} {c : Code} {args : Array Value} {w : World} {R : Ending → World → Prop} (hf : P.funcs[f]? = some fn) (hb : fn.body = some c)
    (h : c.wp P (bodyPost P fn R) { tmps := args ++ Array.replicate (fn.ntmps - args.size) undef, defers := [] } w) : Calls P f args w R := calls_of_wp hf hb h
/-- A call, by its function's body. -/
theorem icall_body {P : Program} {tab : Tab} (hT : TabOk P tab) {f : FuncId} {fn : Func} {c : Code} {args : List AV} {M : Mem} {K : AV → Mem → Prop} (hf : P.funcs[f]? = some fn) (hb : fn.body = some c)
    (hn : (fn.name == "runtime.NumGoroutine") = false) (hl : args.length ≤ fn.ntmps) (h : ACode P c (retK tab fn K) ⟨mkSlots 0 args, M, fn.ntmps⟩) : ICall P f args M K := by
  refine ⟨⟨fn, hf, by rw [hb]; rfl, hn⟩, fun w0 E vs hg hs hr => calls_of_wp hf hb ?_⟩
  have hst : St w0 E [] ⟨mkSlots 0 args, M, fn.ntmps⟩ { tmps := vs ++ Array.replicate (fn.ntmps - vs.size) undef, defers := [] } := by
    refine ⟨hg, fun t => ?_, by simp; omega, rfl⟩
    simp only [mkSlots_get, Nat.zero_le, if_true, Nat.sub_zero]
    by_cases ht : t < args.length
    · rw [List.getElem?_eq_getElem ht]
      have ht2 : t < vs.size := by omega
      have : (vs ++ Array.replicate (fn.ntmps - vs.size) undef).getD t undef = vs[t] := by
        simp only [Array.getD_eq_getD_getElem?]
        rw [Array.getElem?_append_left ht2]
        simp [ht2]
      rw [this]
      exact hr t ht ht2
    · rw [List.getElem?_eq_none (by omega)]
      exact .x _
  refine Code.wp_mono ?_ (wpIn_wide.1 (h none w0 E [] _ hst))
  rintro e a' w' ⟨E', s', rfl, h1, h2, h3⟩
  cases e <;> try exact h3.elim
  all_goals
    obtain ⟨v, x', g1, g2, g3⟩ := results_run hT h1 h3
    exact ⟨h1.d, v, g1, v, E', s'.m, x', rfl, rfl, h1.g, h2, g2, g3⟩
end Go.Ab
