/- Calls by contract: the rules. -/
import Derived.Test.YtpjmbigfgoogaacAb17
set_option linter.unusedVariables false
set_option linter.unusedSimpArgs false
set_option linter.constructorNameAsVariable false
namespace Go.Ab
open Go Go.RowKit

theorem ICall.mono {P : Program} {f : FuncId} {args : List AV} {M : Mem} {K K' : AV → Mem → Prop} (h : ICall P f args M K) (hk : ∀ a M, K a M → K' a M) : ICall P f args M K' :=
  ⟨h.1, fun w0 E vs h1 h2 h3 => Calls.mono' (h.2 w0 E vs h1 h2 h3) fun _ _ ⟨v, E', M', a, e1, e2, e3, e4, e5, e6⟩ => ⟨v, E', M', a, e1, e2, e3, e4, e5, hk _ _ e6⟩⟩

/-- The callee's moment: nothing is its own; what is the caller's (E1) it does not look at. -/
def Env.callee (E1 : Env) : Env := ⟨E1.w, fun _ => none, 0, fun b => E1.hid b ∨ ∃ i q, E1.ad i = some q ∧ 0 < q.cp ∧ q.b = b⟩
theorem callee_good {w0 : World} {E1 : Env} {M1 : Mem} (hg : Good w0 E1 M1) : Good E1.w E1.callee ⟨[], 0⟩ := by
  refine { below := .refl _ _, k := rfl, lt := ?_, gone := fun _ _ => rfl, held := ?_, hid := ?_, old := fun b h => ?_, inj := ?_ }
  · intro _ _ h; cases h
  · intro _ _ h; cases h
  · intro _ _ h; cases h
  rotate_left
  · intro _ _ _ _ _ h; cases h
  rcases h with h | ⟨i, q, h1, h2, rfl⟩
  · exact Nat.lt_of_lt_of_le (hg.old b h) hg.below.size
  · exact (hg.lt_b h1 h2).2
theorem callee_z {E1 : Env} {b : Nat} (h : E1.Z b) : E1.callee.Z b :=
  ⟨h.1, fun h2 => h2.elim h.2.1 fun ⟨i, q, h1, h2, h3⟩ => h.2.2 i q h1 h2 h3, fun _ _ h => by cases h⟩
theorem callee_rep {E1 : Env} {a : AV} {v : Value} (hr : Rep E1 a v) (hu : Under 0 a) : Rep E1.callee a v := hr.pure (fun _ h => ⟨callee_z h, rfl⟩) hu

/-- How the caller names the arguments, and how they are handed on. -/
def Args (M : Mem) (ids : List Nat) : List AV → List AV → Prop
  | [], [] => True
  | a :: r, b :: s => (VOkA M a ∧ (∀ i ∈ idsA a, i ∈ ids) ∧ Weak (viewA M a) b ∧ Under 0 b) ∧ Args M ids r s
  | _, _ => False
theorem Args.len {M : Mem} {ids : List Nat} : ∀ {l m : List AV}, Args M ids l m → l.length = m.length
  | [], [], _ => rfl
  | a :: r, b :: s, h => by simp [h.2.len]
  | [], _ :: _, h => h.elim
  | _ :: _, [], h => h.elim
theorem Args.get {M : Mem} {ids : List Nat} : ∀ {l m : List AV}, Args M ids l m → ∀ i (h1 : i < l.length) (h2 : i < m.length), VOkA M l[i] ∧ (∀ j ∈ idsA l[i], j ∈ ids) ∧ Weak (viewA M l[i]) m[i] ∧ Under 0 m[i]
  | a :: r, b :: s, h, 0, _, _ => h.1
  | a :: r, b :: s, h, i + 1, h1, h2 => h.2.get i (by simpa using h1) (by simpa using h2)
  | [], [], _, i, h1, _ => absurd h1 (by simp)
  | [], _ :: _, h, _, _, _ => h.elim
  | _ :: _, [], h, _, _, _ => h.elim

section
variable {P : Program} {f : FuncId} {args args' : List AV} {M : Mem} {res : AV} {K : AV → Mem → Prop}

theorem callee_args {w0 : World} {E : Env} (hg : Good w0 E M) {ids : List Nat} (ha : Args M ids args args') {vs : Array Value} (hr : ∀ i (h1 : i < args.length) (h2 : i < vs.size), Rep E args[i] vs[i]) :
    ∀ i (h1 : i < args'.length) (h2 : i < vs.size), Rep (E.without ids).callee args'[i] vs[i] := fun i h1 h2 => by
  have h3 : i < args.length := by rw [ha.len]; exact h1
  obtain ⟨g1, g2, g3, g4⟩ := ha.get i h3 h1
  have := rep_viewA hg (hr i h3 h2) g1 g2
  exact callee_rep (g3.rep this) g4

theorem OkA.cells {Ok : AV → Prop} : ∀ {ds : List AV}, OkL Ok ds → ∀ b ∈ blksL ds, ∀ i (hi : i < b.xs.length), ∀ j (hj : j < b.xs[i].cells.length), Ok b.xs[i].cells[j]
  | [], _, b, hb => by simp [blksL] at hb
  | a :: r, h, b, hb => by
    simp only [blksL, List.mem_append] at hb
    rcases hb with hb | hb
    · cases a <;> simp only [blksC, List.not_mem_nil, List.mem_singleton] at hb
      subst hb
      exact h.1
    · exact OkA.cells h.2 b hb
theorem OkA.cellsA {Ok : AV → Prop} {a : AV} (h : OkA Ok a) : ∀ b ∈ blksA a, ∀ i (hi : i < b.xs.length), ∀ j (hj : j < b.xs[i].cells.length), Ok b.xs[i].cells[j] := by
  intro b hb
  cases a with
  | g cs => exact OkA.cells (ds := cs) h b hb
  | o T sz xs =>
    simp only [blksA, blksC, List.mem_singleton] at hb
    subst hb
    exact h
  | _ => simp [blksA, blksC] at hb
theorem OkLA.cells {Ok : AV → Prop} : ∀ {ds : List AV}, OkLA Ok ds → ∀ b ∈ blksLA ds, ∀ i (hi : i < b.xs.length), ∀ j (hj : j < b.xs[i].cells.length), Ok b.xs[i].cells[j]
  | [], _, b, hb => by simp [blksLA] at hb
  | a :: r, h, b, hb => by
    simp only [blksLA, List.mem_append] at hb
    rcases hb with hb | hb
    · exact OkA.cellsA h.1 b hb
    · exact OkLA.cells h.2 b hb
theorem OkR.cells {Ok : AV → Prop} {a : AV} (h : OkR Ok a) : ∀ b ∈ blks a, ∀ i (hi : i < b.xs.length), ∀ j (hj : j < b.xs[i].cells.length), Ok b.xs[i].cells[j] := by
  intro b hb
  cases a with
  | t cs => exact OkLA.cells (ds := cs) h b hb
  | _ =>
    have h' := h
    simp only [OkR] at h'
    exact OkA.cellsA h' b hb

theorem come_back {w0 : World} {E2 E' : Env} {M2 M' : Mem} {Ok : AV → Prop} {FZ IDS : List Nat} {a : AV} {v : Value} (hg2 : Good w0 E2 M2) (hg : Good E2.w E' M') (hr : Rep E' a v) (he : ExpR M' a res IDS FZ) (hn : IDS.Nodup) (hd : ∀ i ∈ IDS, i ∉ FZ)
    (hOk : ∀ a v, Ok a → Rep (E'.without FZ) a v → Rep (E2.import (E'.without FZ) IDS) a v) (hres : OkR Ok res) :
    Good w0 (E2.import (E'.without FZ) IDS) (M2.adds (blks res)) ∧ Later E2 (E2.import (E'.without FZ) IDS) ∧ Rep (E2.import (E'.without FZ) IDS) (thaw M2.k res) v := by
  obtain ⟨⟨h1, h2⟩, h3⟩ := expR_thaw (E1 := E2) (IDS := IDS) hg hOk he hr (fun _ h => h) hd (fun j _ => by rw [Nat.zero_add]) hres
  obtain ⟨g1, g2⟩ := Good.import hg2 (hg.without FZ).1 IDS (blks res) hn h1 (fun j g1 g2 => h2 j g1 g2) (fun b hb i hi j hj v hv => hOk _ v (OkR.cells hres b hb i hi j hj) hv)
  exact ⟨g1, g2, by rw [hg2.k]; exact h3⟩

/-- The arguments are given up. -/
theorem icall_drop (ids : List Nat) (h : PCall P f args' res) (ha : Args M ids args args') (hres : OkR (Under 0) res) (hK : K (thaw M.k res) ((M.without ids).adds (blks res))) : ICall P f args M K := by
  refine ⟨h.1, fun w0 E vs hg hs hr => ?_⟩
  obtain ⟨hg1, hl1⟩ := hg.without ids
  refine Calls.mono' (h.2 E.w (E.without ids).callee vs (callee_good hg1) (by rw [hs, ha.len]) (callee_args hg ha hr)) ?_
  rintro e w' ⟨v, E', M', a, rfl, rfl, k1, k2, k3, IDS, FZ, k4, k5, k6⟩
  have hz : ∀ b, (E'.without FZ).Z b → ((E.without ids).import (E'.without FZ) IDS).Z b ∧ ((E.without ids).import (E'.without FZ) IDS).w.heap[b]? = (E'.without FZ).w.heap[b]? := fun b hb => by
    have hh : E'.hid = (E.without ids).callee.hid := k2.hid
    have hb2 : ¬ E'.hid b := hb.2.1
    rw [hh] at hb2
    refine ⟨⟨hb.1, fun h => hb2 (.inl h), fun i q hq hcp => ?_⟩, rfl⟩
    simp only [Env.import] at hq
    split at hq
    · intro e; exact hb2 (.inr ⟨i, q, hq, hcp, e⟩)
    · cases hi : IDS[i - (E.without ids).k]? with
      | none => rw [hi] at hq; cases hq
      | some j => rw [hi] at hq; exact hb.2.2 j q hq hcp
  have hkk : (M.without ids).k = M.k := by rw [hg1.k, hg.k]; rfl
  obtain ⟨g1, g2, g3⟩ := come_back (Ok := Under 0) hg1 k1 k3 k4 k5 k6 (fun a v hu hv => hv.pure hz hu) hres
  rw [hkk] at g3
  exact ⟨v, (E.without ids).import (E'.without FZ) IDS, _, _, rfl, rfl, g1, hl1.trans g2, g3, hK⟩

/-- The arguments are kept; nothing of what comes back is of them. -/
theorem icall_keep (ids : List Nat) (h : PCall P f args' res) (ha : Args M ids args args') (hres : OkR Flat res) (hK : K (thaw M.k res) (M.adds (blks res))) : ICall P f args M K := by
  refine ⟨h.1, fun w0 E vs hg hs hr => ?_⟩
  obtain ⟨hg1, hl1⟩ := hg.without ids
  refine Calls.mono' (h.2 E.w (E.without ids).callee vs (callee_good hg1) (by rw [hs, ha.len]) (callee_args hg ha hr)) ?_
  rintro e w' ⟨v, E', M', a, rfl, rfl, k1, k2, k3, IDS, FZ, k4, k5, k6⟩
  obtain ⟨g1, g2, g3⟩ := come_back (Ok := Flat) hg k1 k3 k4 k5 k6 (fun a v hu hv => hv.flat hu) hres
  exact ⟨v, E.import (E'.without FZ) IDS, _, _, rfl, rfl, g1, g2, g3, hK⟩
end

/-- A function's body, walked: its contract. -/
theorem pcall_body {P : Program} {tab : Tab} (hT : TabOk P tab) {f : FuncId} {fn : Func} {c : Code} {args : List AV} {res : AV} (hf : P.funcs[f]? = some fn) (hb : fn.body = some c)
    (hn : (fn.name == "runtime.NumGoroutine") = false) (hl : args.length ≤ fn.ntmps) (h : aw P tab c (retK tab fn fun a M => Exp M a res) ⟨mkSlots 0 args, ⟨[], 0⟩, fn.ntmps⟩) : PCall P f args res :=
  icall_body hT hf hb hn hl (aw_sound hT c _ _ h)
end Go.Ab
