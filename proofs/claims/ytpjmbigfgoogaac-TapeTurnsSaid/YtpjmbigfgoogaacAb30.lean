/- A range over a function: blocks that are no cells turn; marks; functions that hold such a loop. -/
import Derived.Test.YtpjmbigfgoogaacAb28
import Derived.RangeFuncWrites
import Derived.RangeFuncLeaves
import Derived.RangeFuncBound
set_option linter.unusedVariables false
set_option linter.unusedSimpArgs false
set_option linter.constructorNameAsVariable false
namespace Go.Ab
open Go Go.RowKit

/-- The same moment in another world. -/
def Env.at (E : Env) (W : World) : Env := ⟨W, E.ad, E.k, E.hid⟩
section
variable {w0 : World} {E E0 : Env} {W : World} {row : Option Nat} {M : Mem}
def Dull (W : World) (row : Option Nat) : Prop := ∀ r, row = some r → ∃ o : Obj, W.heap[r]? = some o ∧ o.isCells = false
theorem Z.at {b : Nat} (hg : E.w.grownBy W row) (h : E.Z b) : (E.at W).Z b := ⟨Nat.lt_of_lt_of_le h.1 hg.size, h.2.1, h.2.2⟩
theorem Rep.turn (hg : E.w.grownBy W row) (hr : Dull E.w row) {a : AV} {v : Value} (h : Rep E a v) : Rep (E.at W) a v := by
  induction h with
  | c v h => exact .c v h
  | x v => exact .x v
  | g cs ys h hr ih => exact .g cs ys h ih
  | t cs ys h hr ih => exact .t cs ys h ih
  | f fn caps ys h hr ih => exact .f fn caps ys h ih
  | l sz xs b off cap y hcap hz hs hc hrr ih =>
    exact .l sz xs b off cap y hcap (Z.at hg hz) hs (fun i j hi hj => ⟨cell_kept (hc i j hi hj).1 hg hr, (hc i j hi hj).2⟩) ih
  | l0 sz A cap => exact .l0 sz A cap
  | p id i j n a hk h => exact .p id i j n a hk h
  | s id off n A cap hk h => exact .s id off n A cap hk h
  | e cs b off y hz hc hrr ih => exact .e cs b off y (Z.at hg hz) (fun j hj => ⟨cell_kept (hc j hj).1 hg hr, (hc j hj).2⟩) ih
theorem Backed.turn (hg : E.w.grownBy W row) (hr : Dull E.w row) {q : At} {blk : Blk} (h : Backed E q blk) : Backed (E.at W) q blk := by
  obtain ⟨h0, arr, h1, h2, h3⟩ := h
  refine ⟨h0, arr, ?_, h2, fun i hi => ⟨(h3 i hi).1, fun j hj => ?_⟩⟩
  · rw [← h1]
    refine hg.block q.b (Array.getElem?_eq_some_iff.1 h1).1 fun e => ?_
    obtain ⟨o, ho, hc⟩ := hr _ e.symm
    rw [h1] at ho; cases ho; cases hc
  · obtain ⟨y, y1, y2, y3⟩ := (h3 i hi).2 j hj
    exact ⟨y, y1, y2, y3.turn hg hr⟩
theorem Good.turn (hG : Good w0 E M) (hg : E.w.grownBy W row) (hr : Dull E.w row) (hw : ∀ r, row = some r → w0.heap.size ≤ r) : Good w0 (E.at W) M :=
  ⟨hG.below.grown hg hG.below.size hw, hG.k, hG.lt, hG.gone, fun id blk h => by
    obtain ⟨q, a1, a2, a3, a4, a5⟩ := hG.held id blk h
    exact ⟨q, a1, a2, a3, a4, fun hcp => ⟨(a5 hcp).1, ((a5 hcp).2).turn hg hr⟩⟩, hG.hid, hG.old, hG.inj⟩
theorem Later.turn (hl : Later E0 E) (hg : E.w.grownBy W row) (hw : ∀ r, row = some r → E0.w.heap.size ≤ r) : Later E0 (E.at W) :=
  ⟨fun b hb => ⟨Z.at hg (hl.z b hb).1, by
    refine (hg.block b (hl.z b hb).1.1 fun e => ?_).trans (hl.z b hb).2
    have := hw b e.symm
    have := hb.1
    omega⟩, hl.k, hl.ad, hl.hid⟩
theorem RepS.turn {sl : Slots} {tmps : Array Value} (h : RepS E sl tmps) (hg : E.w.grownBy W row) (hr : Dull E.w row) : RepS (E.at W) sl tmps := fun t => (h t).turn hg hr
end
theorem put_grown (W : World) (l : Nat) (o : Obj) : W.grownBy (W.putObj l o) (some l) := grownBy_putObj' W l o
theorem put_dull {W : World} {l : Nat} {o : Obj} (h : W.heap[l]? = some o) (hc : o.isCells = false) : Dull W (some l) := fun r e => by cases e; exact ⟨o, h, hc⟩
theorem alloc_grown (W : World) (o : Obj) : W.grownBy (W.alloc o) none := World.grownBy_alloc W o none
theorem alloc_dull {W : World} : Dull W none := fun r e => by cases e
theorem row_none {n : Nat} : ∀ r, (none : Option Nat) = some r → n ≤ r := fun r e => by cases e
theorem row_some {n l : Nat} (h : n ≤ l) : ∀ r, some l = some r → n ≤ r := fun r e => by cases e; exact h

/-- The marks that loops over functions have left: blocks made since the call began (Ee). -/
def Marks (w0 : World) (Ee E : Env) : List Deferred → Prop
  | [] => True
  | d :: ds => (∃ r, d = { target := .collected r, args := #[] } ∧ w0.heap.size ≤ r ∧ ¬ Ee.Z r ∧ E.Z r ∧ E.w.heap[r]? = some (.deferred (some [])) ∧ ∀ d' ∈ ds, d'.target ≠ .collected r) ∧ Marks w0 Ee E ds
theorem Marks.later {w0 : World} {Ee E E' : Env} (hl : Later E E') : ∀ {ds : List Deferred}, Marks w0 Ee E ds → Marks w0 Ee E' ds
  | [], _ => trivial
  | d :: ds, ⟨⟨r, h1, h2, h0, h3, h4, h5⟩, h6⟩ => ⟨⟨r, h1, h2, h0, (hl.z r h3).1, (hl.z r h3).2.trans h4, h5⟩, h6.later hl⟩
theorem Marks.turn {w0 : World} {Ee E : Env} {W : World} {r : Nat} (hg : E.w.grownBy W (some r)) : ∀ {ds : List Deferred}, Marks w0 Ee E ds → (∀ d' ∈ ds, d'.target ≠ .collected r) → Marks w0 Ee (E.at W) ds
  | [], _, _ => trivial
  | d :: ds, ⟨⟨r', h1, h2, h0, h3, h4, h5⟩, h6⟩, hne => ⟨⟨r', h1, h2, h0, Z.at hg h3, by
      refine (hg.block r' h3.1 fun e => ?_).trans h4
      injection e with e
      subst e
      exact hne d (by simp) (by rw [h1]), h5⟩, h6.turn hg fun d' h => hne d' (by simp [h])⟩

/-- A piece of code of a function's own frame that may leave marks. -/
def ACode1 (P : Program) (c : Code) (K : Exit → ASt → Prop) (s : ASt) : Prop :=
  ∀ w0 Ee E D a, Later Ee E → St w0 E D s a → Marks w0 Ee E D →
    c.wpIn (FF none) 0 P (fun ex a' w' => ∃ E' D' s', E'.w = w' ∧ St w0 E' D' s' a' ∧ Marks w0 Ee E' D' ∧ Later E E' ∧ K ex s') a E.w
theorem ACode1.of {P : Program} {c : Code} {K : Exit → ASt → Prop} {s : ASt} (h : ACode P c K s) : ACode1 P c K s := fun w0 Ee E D a _ hs hm =>
  Code.wpIn_mono (fun ex a' w' ⟨E', s', h1, h2, h3, h4⟩ => ⟨E', D, s', h1, h2, hm.later h3, h3, h4⟩) (h none w0 E D a hs)
/-- Code of a function that holds a loop over a function, walked. -/
def aw1 (P : Program) (tab : Tab) : Code → (Exit → ASt → Prop) → ASt → Prop
  | .seq x' y, K, s => aw1 P tab x' (thenK (fun s => aw1 P tab y K s) K) s
  | .cond c x' y, K, s => condK (ev s.sl c) (aw1 P tab x' K s) (aw1 P tab y K s)
  | .block id c, K, s => aw1 P tab c (blockK id K) s
  | .rangeFunc f p x' y, K, s => ACode1 P (.rangeFunc f p x' y) K s
  | c, K, s => aw P tab c K s
theorem aw1_sound {P : Program} {tab : Tab} (hT : TabOk P tab) : ∀ (c : Code) (K : Exit → ASt → Prop) (s : ASt), aw1 P tab c K s → ACode1 P c K s
  | .skip, K, s, h => .of (aw_sound hT _ K s h)
  | .label _, K, s, h => .of (aw_sound hT _ K s h)
  | .ret, K, s, h => .of (aw_sound hT _ K s h)
  | .exit id, K, s, h => .of (aw_sound hT _ K s h)
  | .goto l, K, s, h => .of (aw_sound hT _ K s h)
  | .region id ops d, K, s, h => .of (aw_sound hT _ K s h)
  | .loop c, K, s, h => .of (aw_sound hT _ K s h)
  | .scope c, K, s, h => .of (aw_sound hT _ K s h)
  | .refuse _, _, _, h => h.elim
  | .rangeFunc f p x' y, K, s, h => h
  | .seq x' y, K, s, h => fun w0 Ee E D a hl hs hm => by
    refine wpIn_seq (Code.wpIn_mono ?_ (aw1_sound hT x' _ s h w0 Ee E D a hl hs hm))
    rintro e a' w' ⟨E', D', s', rfl, h1, h2, h3, h4⟩
    cases e with
    | normal => exact Code.wpIn_mono (fun _ _ _ ⟨E2, D2, s2, g1, g2, g3, g4, g5⟩ => ⟨E2, D2, s2, g1, g2, g3, h3.trans g4, g5⟩) (aw1_sound hT y K s' h4 w0 Ee E' D' a' (hl.trans h3) h1 h2)
    | _ => exact ⟨E', D', s', rfl, h1, h2, h3, h4⟩
  | .cond c x' y, K, s, h => fun w0 Ee E D a hl hs hm => by
    have hc := rep_ev hs.r c
    simp only [aw1] at h
    generalize ev s.sl c = ac at h hc
    generalize hv : a.eval c = v at hc
    cases hc <;> try exact h.elim
    cases v <;> try exact h.elim
    rename_i b
    refine wpIn_cond_split hv (fun hb => ?_) (fun hb => ?_)
    · subst hb
      exact aw1_sound hT x' K s h w0 Ee E D a hl hs hm
    · subst hb
      simp only [condK, Bool.false_eq_true, if_false] at h
      exact aw1_sound hT y K s h w0 Ee E D a hl hs hm
  | .block id c, K, s, h => fun w0 Ee E D a hl hs hm => by
    refine wpIn_block (Code.wpIn_mono ?_ (aw1_sound hT c _ s h w0 Ee E D a hl hs hm))
    rintro e a' w' ⟨E', D', s', rfl, h1, h2, h3, h4⟩
    cases e with
    | exit j =>
      simp only [Exit.inBlock]
      simp only [blockK] at h4
      split <;> rename_i hj
      · rw [if_pos hj] at h4; exact ⟨E', D', s', rfl, h1, h2, h3, h4⟩
      · rw [if_neg hj] at h4; exact ⟨E', D', s', rfl, h1, h2, h3, h4⟩
    | _ => exact ⟨E', D', s', rfl, h1, h2, h3, h4⟩

section
variable {P : Program} {tab : Tab} {KE : Exit → ASt → Prop} {s : ASt}
theorem r1_skip : aw1 P tab .skip KE s = KE .normal s := rfl
theorem r1_ret : aw1 P tab .ret KE s = KE .ret s := rfl
theorem r1_exit {id : Nat} : aw1 P tab (.exit id) KE s = KE (.exit id) s := rfl
theorem r1_region {id : Nat} {ops : Array Oper} {d : Bool} : aw1 P tab (.region id ops d) KE s = aw P tab (.region id ops d) KE s := rfl
theorem r1_loop {c : Code} : aw1 P tab (.loop c) KE s = aw P tab (.loop c) KE s := rfl
theorem r1_scope {c : Code} : aw1 P tab (.scope c) KE s = aw P tab (.scope c) KE s := rfl
theorem r1_seq {x' y : Code} : aw1 P tab (.seq x' y) KE s = aw1 P tab x' (thenK (aw1 P tab y KE) KE) s := rfl
theorem r1_cond {c : Operand} {x' y : Code} : aw1 P tab (.cond c x' y) KE s = condS (ev s.sl c) (aw1 P tab x' KE) (aw1 P tab y KE) s := rfl
theorem r1_block {id : Nat} {c : Code} : aw1 P tab (.block id c) KE s = aw1 P tab c (blockK id KE) s := rfl
theorem r1_range {f : Operand} {p : Array Tmp} {x' y : Code} : aw1 P tab (.rangeFunc f p x' y) KE s = ACode1 P (.rangeFunc f p x' y) KE s := rfl
end

/-- A function's end, marks and all. -/
theorem leaves_marks {P : Program} {tab : Tab} (hT : TabOk P tab) {w0 : World} {Ee : Env} {fn : Func} {K : AV → Mem → Prop} {s : ASt} {tmps : Array Value} :
    ∀ (D : List Deferred) (E : Env), Good w0 E s.m → RepS E s.sl tmps → tmps.size = s.N → Later Ee E → Marks w0 Ee E D → resK tab s.sl s.m (oneK fun a => K a s.m) fn.results.toList →
      LeavesInM (FF none) 0 P fn tmps (fun e w' => ∃ v E' M' a, e = .returned v ∧ E'.w = w' ∧ Good w0 E' M' ∧ Later Ee E' ∧ Rep E' a v ∧ K a M') D .returning E.w
  | [], E, hg, hr, hn, hl, _, hk => by
    obtain ⟨v, x', h1, h2, h3⟩ := results_run hT (D := []) (a := { tmps := tmps, defers := [] }) ⟨hg, hr, hn, rfl⟩ hk
    exact ⟨v, h1, v, E, s.m, x', rfl, rfl, hg, hl, h2, h3⟩
  | d :: ds, E, hg, hr, hn, hl, ⟨⟨r, h1, h2, h0, h3, h4, h5⟩, h6⟩, hk => by
    subst h1
    have gr := put_grown E.w r (.deferred none)
    have du := put_dull h4 (rfl : Obj.isCells (.deferred (some [])) = false)
    refine ⟨by simp, .inl ⟨r, _, rfl, run_takeDeferred h4, ?_⟩⟩
    refine leaves_marks hT ds (E.at _) (hg.turn gr du (row_some h2)) (hr.turn gr du) hn ?_ (h6.turn gr h5) hk
    exact ⟨fun b hb => ⟨Z.at gr (hl.z b hb).1, by
      refine (gr.block b (hl.z b hb).1.1 fun e => ?_).trans (hl.z b hb).2
      injection e with e
      subst e
      exact h0 hb⟩, hl.k, hl.ad, hl.hid⟩
theorem icall_body1 {P : Program} {tab : Tab} (hT : TabOk P tab) {f : FuncId} {fn : Func} {c : Code} {args : List AV} {M : Mem} {K : AV → Mem → Prop} (hf : P.funcs[f]? = some fn) (hb : fn.body = some c)
    (hn : (fn.name == "runtime.NumGoroutine") = false) (hl : args.length ≤ fn.ntmps) (h : ACode1 P c (retK tab fn K) ⟨mkSlots 0 args, M, fn.ntmps⟩) : ICall P f args M K := by
  refine ⟨⟨fn, hf, by rw [hb]; rfl, hn⟩, fun w0 E vs hg hs hr => (callsIn_wide (n := 0)).1 (callsIn_of_wp_marks hf hb trivial ?_ rfl)⟩
  have hst : St w0 E [] ⟨mkSlots 0 args, M, fn.ntmps⟩ { tmps := vs ++ Array.replicate (fn.ntmps - vs.size) undef, defers := [] } := by
    refine ⟨hg, fun t => ?_, by simp; omega, rfl⟩
    simp only [mkSlots_get, Nat.zero_le, if_true, Nat.sub_zero]
    by_cases ht : t < args.length
    · rw [List.getElem?_eq_getElem ht]
      have ht2 : t < vs.size := by omega
      have : (vs ++ Array.replicate (fn.ntmps - vs.size) undef).getD t undef = vs[t] := by
        simp only [Array.getD_eq_getD_getElem?]
        rw [Array.getElem?_append_left ht2]
        simp [ht2]
      rw [this]
      exact hr t ht ht2
    · rw [List.getElem?_eq_none (by omega)]
      exact .x _
  refine Code.wpIn_mono ?_ (h w0 E E [] _ (.refl E) hst trivial)
  rintro e a' w' ⟨E', D', s', rfl, h1, h2, h3, h4⟩
  cases e <;> try exact h4.elim
  all_goals
    show LeavesInM (FF none) 0 P fn a'.tmps _ a'.defers .returning E'.w
    rw [h1.d]
    exact leaves_marks hT D' E' h1.g h1.r h1.n h3 h2 h4
theorem pcall_body1 {P : Program} {tab : Tab} (hT : TabOk P tab) {f : FuncId} {fn : Func} {c : Code} {args : List AV} {res : AV} (hf : P.funcs[f]? = some fn) (hb : fn.body = some c)
    (hn : (fn.name == "runtime.NumGoroutine") = false) (hl : args.length ≤ fn.ntmps) (h : aw1 P tab c (retK tab fn fun a M => Exp M a res) ⟨mkSlots 0 args, ⟨[], 0⟩, fn.ntmps⟩) : PCall P f args res :=
  icall_body1 hT hf hb hn hl (aw1_sound hT c _ _ h)
end Go.Ab
