/- Calls by contract: the caller's side. Calls by contract: the rules. A table .. -/
import Derived.Test.YtkikaagieknpdaaGreatAbG2
import Derived.Orders
import Derived.Scope
set_option linter.unusedVariables false
set_option linter.unusedSimpArgs false
set_option linter.constructorNameAsVariable false
namespace Go.Ab
open Go Go.RowKit
theorem without_get (M : Mem) : ∀ (ids : List Nat) (i : Nat), (M.without ids).get i = if i ∈ ids then none else M.get i
 | [], i => by simp [Mem.without]
 | id :: r, i => by
  simp only [Mem.without]
  rw [without_get (M.drop id) r i]
  simp only [Mem.get, Mem.drop, assoc_remove, List.mem_cons]
  by_cases h : i = id
  · subst h; simp
  · simp [h, Ne.symm h]
def OkC (Ok : AV → Prop) : AV → Prop
 | .o _ _ xs => ∀ i (hi : i < xs.length), ∀ j (hj : j < xs[i].cells.length), Ok xs[i].cells[j]
 | a => Ok a
def OkL (Ok : AV → Prop) : List AV → Prop
 | [] => True
 | a :: r => OkC Ok a ∧ OkL Ok r
def OkA (Ok : AV → Prop) : AV → Prop
 | .g cs => OkL Ok cs
 | a => OkC Ok a
def OkLA (Ok : AV → Prop) : List AV → Prop
 | [] => True
 | a :: r => OkA Ok a ∧ OkLA Ok r
def OkR (Ok : AV → Prop) : AV → Prop
 | .t cs => OkLA Ok cs
 | a => OkA Ok a
section
variable {w0 : World} {E1 E' : Env} {M' : Mem} {FZ IDS : List Nat} {Ok : AV → Prop}
theorem expC_thaw (hg : Good w0 E' M') (hOk : ∀ a v, Ok a → Rep (E'.without FZ) a v → Rep (E1.import (E'.without FZ) IDS) a v)
 {a b : AV} {ids fz : List Nat} {v : Value} {pos : Nat} (h : ExpC M' a b ids fz) (hr : Rep E' a v) (hfz : ∀ i ∈ fz, i ∈ FZ) (hids : ∀ i ∈ ids, i ∉ FZ) (hpos : ∀ j, j < ids.length → IDS[pos + j]? = ids[j]?) (ho : OkC Ok b) :
 (ids.length = (blksC b).length ∧ ∀ j (h1 : j < ids.length) (h2 : j < (blksC b).length), (M'.without FZ).get ids[j] = some (blksC b)[j]) ∧ Rep (E1.import (E'.without FZ) IDS) (thawC (E1.k + pos) b) v := by
 have hpure : ∀ a b, Weak1 a b ∧ Under 0 b ∧ ids = [] ∧ fz = [] → Rep E' a v → OkC Ok b → (∀ T sz xs, b ≠ .o T sz xs) →
  (ids.length = (blksC b).length ∧ ∀ j (h1 : j < ids.length) (h2 : j < (blksC b).length), (M'.without FZ).get ids[j] = some (blksC b)[j]) ∧ Rep (E1.import (E'.without FZ) IDS) (thawC (E1.k + pos) b) v := by
  rintro a0 a ⟨hw, hu, rfl, rfl⟩ hr ho hne
  replace hr := hw.rep hr
  have hb : blksC a = [] := by cases a <;> first | rfl | (exact absurd rfl (hne _ _ _))
  have ht : thawC (E1.k + pos) a = a := by cases a <;> first | rfl | (exact absurd rfl (hne _ _ _))
  have hok : Ok a := by cases a <;> first | exact ho | (exact absurd rfl (hne _ _ _))
  rw [hb, ht]
  exact ⟨⟨rfl, fun j h1 => absurd h1 (by simp)⟩, hOk a v hok (hr.later (hg.without FZ).2)⟩
 cases a with
 | s id off n =>
  cases b with
  | o T sz xs =>
   obtain ⟨rfl, rfl, rfl, hM, rfl, hp⟩ := h
   have hnf : id ∉ FZ := hids id (by simp)
   refine ⟨⟨rfl, fun j h1 h2 => ?_⟩, ?_⟩
   · have h0 : j = 0 := by simpa using h1
     subst h0
     simp only [List.getElem_cons_zero, blksC]
     rw [without_get, if_neg hnf]; exact hM
   · cases hr with
     | s _ _ _ A cap hk hh =>
      have hp0 := hpos 0 (by simp)
      simp only [Nat.add_zero, List.getElem?_cons_zero] at hp0
      obtain ⟨hpl, _⟩ := List.getElem?_eq_some_iff.1 hp0
      refine .s _ _ _ A cap (by show E1.k + pos < E1.k + IDS.length; omega) (fun q hq => ?_)
      simp only [Env.import] at hq
      rw [if_neg (by omega)] at hq
      have e : E1.k + pos - E1.k = pos := by omega
      rw [e, hp0] at hq
      simp only [Option.bind_some, Env.without, if_neg hnf] at hq
      exact hh q hq
  | l sz xs =>
   obtain ⟨rfl, rfl, blk, hM, hn, rfl, rfl, hp⟩ := h
   refine ⟨⟨rfl, fun j h1 => absurd h1 (by simp)⟩, ?_⟩
   have := rep_viewC (ids := FZ) hg hr ⟨blk, hM, hn, hp⟩ (fun i hi => hfz i (by simpa [idsC] using hi))
   simp only [viewC, hM] at this
   exact hOk _ _ ho this
  | _ => exact hpure _ _ h hr ho (fun _ _ _ e => by cases e)
 | _ =>
  cases b with
  | o T sz xs =>
   have := h
   simp only [ExpC] at this
   obtain ⟨t1, t2, _⟩ := this
   first | (cases t1.toO; done) | (cases t1.toO; cases t2; done)
  | _ => exact hpure _ _ h hr ho (fun _ _ _ e => by cases e)
theorem expL_thaw (hg : Good w0 E' M') (hOk : ∀ a v, Ok a → Rep (E'.without FZ) a v → Rep (E1.import (E'.without FZ) IDS) a v) :
 ∀ (cs ds : List AV) (ids fz : List Nat) (vs : List Value) (pos : Nat), ExpL M' cs ds ids fz → vs.length = cs.length → (∀ i (h1 : i < cs.length) (h2 : i < vs.length), Rep E' cs[i] vs[i]) →
  (∀ i ∈ fz, i ∈ FZ) → (∀ i ∈ ids, i ∉ FZ) → (∀ j, j < ids.length → IDS[pos + j]? = ids[j]?) → OkL Ok ds →
  (ids.length = (blksL ds).length ∧ ∀ j (h1 : j < ids.length) (h2 : j < (blksL ds).length), (M'.without FZ).get ids[j] = some (blksL ds)[j]) ∧
  (thawL (E1.k + pos) ds).length = cs.length ∧ ∀ i (h1 : i < (thawL (E1.k + pos) ds).length) (h2 : i < vs.length), Rep (E1.import (E'.without FZ) IDS) (thawL (E1.k + pos) ds)[i] vs[i]
 | [], [], ids, fz, vs, pos, h, hl, hr, hfz, hids, hpos, ho => by
  obtain ⟨rfl, rfl⟩ := h
  exact ⟨⟨rfl, fun j h1 => absurd h1 (by simp)⟩, rfl, fun i h1 => absurd h1 (by simp [thawL])⟩
 | a :: r, b :: s, ids, fz, vs, pos, h, hl, hr, hfz, hids, hpos, ho => by
  obtain ⟨i1, i2, f1, f2, rfl, rfl, h1, h2⟩ := h
  match vs, hl, hr with
  | v :: vs, hl, hr =>
   have k1 := expC_thaw (pos := pos) hg hOk h1 (hr 0 (by simp) (by simp)) (fun i hi => hfz i (by simp [hi])) (fun i hi => hids i (by simp [hi])) (fun j hj => by
    rw [hpos j (by simp; omega), List.getElem?_append_left hj]) ho.1
   have k2 := expL_thaw hg hOk r s i2 f2 vs (pos + i1.length) h2 (by simpa using hl) (fun i g1 g2 => hr (i + 1) (by simpa using g1) (by simpa using g2)) (fun i hi => hfz i (by simp [hi])) (fun i hi => hids i (by simp [hi])) (fun j hj => by
    rw [Nat.add_assoc, hpos (i1.length + j) (by simp; omega), List.getElem?_append_right (by omega)]
    congr 1; omega) ho.2
   have e : E1.k + (pos + i1.length) = E1.k + pos + (blksC b).length := by rw [k1.1.1]; omega
   rw [e] at k2
   refine ⟨⟨by simp [blksL, k1.1.1, k2.1.1], fun j g1 g2 => ?_⟩, by simp [thawL, k2.2.1], fun i g1 g2 => ?_⟩
   · have hl1 := k1.1.1
     by_cases hj : j < i1.length
     · simp only [blksL]
       rw [List.getElem_append_left hj, List.getElem_append_left (by omega)]
       exact k1.1.2 j hj (by omega)
     · simp only [blksL] at g2 ⊢
       simp only [List.length_append] at g1 g2
       rw [List.getElem_append_right (by omega), List.getElem_append_right (by omega)]
       have := k2.1.2 (j - i1.length) (by omega) (by rw [← k2.1.1]; omega)
       simp only [hl1] at this ⊢
       exact this
   · cases i with
     | zero => exact k1.2
     | succ i => exact k2.2.2 i (by simpa [thawL] using g1) (by simpa using g2)
  | [], hl, _ => simp at hl
 | [], _ :: _, _, _, _, _, h, _, _, _, _, _, _ => h.elim
 | _ :: _, [], _, _, _, _, h, _, _, _, _, _, _ => h.elim
theorem expA_thaw (hg : Good w0 E' M') (hOk : ∀ a v, Ok a → Rep (E'.without FZ) a v → Rep (E1.import (E'.without FZ) IDS) a v)
 {a b : AV} {ids fz : List Nat} {v : Value} {pos : Nat} (h : ExpA M' a b ids fz) (hr : Rep E' a v) (hfz : ∀ i ∈ fz, i ∈ FZ) (hids : ∀ i ∈ ids, i ∉ FZ) (hpos : ∀ j, j < ids.length → IDS[pos + j]? = ids[j]?) (ho : OkA Ok b) :
 (ids.length = (blksA b).length ∧ ∀ j (h1 : j < ids.length) (h2 : j < (blksA b).length), (M'.without FZ).get ids[j] = some (blksA b)[j]) ∧ Rep (E1.import (E'.without FZ) IDS) (thawA (E1.k + pos) b) v := by
 cases a with
 | g cs =>
  cases b with
  | g ds =>
   cases hr with
   | g _ ys hl hr =>
    have := expL_thaw (pos := pos) hg hOk cs ds ids fz ys.toList h (by simpa using hl) (fun i h1 h2 => by simpa using hr i h1 (by simpa using h2)) hfz hids hpos ho
    refine ⟨this.1, .g _ ys (by rw [this.2.1]; exact hl) (fun i h1 h2 => by have := this.2.2 i h1 (by simpa using h2); rw [Array.getElem_toList] at this; exact this)⟩
  | _ => 
   have := h
   simp only [ExpA, ExpC] at this
   obtain ⟨t1, _⟩ := this
   first | (cases t1.g; done) | (cases t1.t; done) | (cases t1.toG; done) | (cases t1.toT; done)
 | _ =>
  cases b with
  | g ds =>
   have := h
   simp only [ExpA, ExpC] at this
   obtain ⟨t1, _⟩ := this
   first | (cases t1.g; done) | (cases t1.t; done) | (cases t1.toG; done) | (cases t1.toT; done)
  | _ =>
   have h' := h
   simp only [ExpA] at h'
   exact expC_thaw hg hOk h' hr hfz hids hpos ho
theorem expLA_thaw (hg : Good w0 E' M') (hOk : ∀ a v, Ok a → Rep (E'.without FZ) a v → Rep (E1.import (E'.without FZ) IDS) a v) :
 ∀ (cs ds : List AV) (ids fz : List Nat) (vs : List Value) (pos : Nat), ExpLA M' cs ds ids fz → vs.length = cs.length → (∀ i (h1 : i < cs.length) (h2 : i < vs.length), Rep E' cs[i] vs[i]) →
  (∀ i ∈ fz, i ∈ FZ) → (∀ i ∈ ids, i ∉ FZ) → (∀ j, j < ids.length → IDS[pos + j]? = ids[j]?) → OkLA Ok ds →
  (ids.length = (blksLA ds).length ∧ ∀ j (h1 : j < ids.length) (h2 : j < (blksLA ds).length), (M'.without FZ).get ids[j] = some (blksLA ds)[j]) ∧
  (thawLA (E1.k + pos) ds).length = cs.length ∧ ∀ i (h1 : i < (thawLA (E1.k + pos) ds).length) (h2 : i < vs.length), Rep (E1.import (E'.without FZ) IDS) (thawLA (E1.k + pos) ds)[i] vs[i]
 | [], [], ids, fz, vs, pos, h, hl, hr, hfz, hids, hpos, ho => by
  obtain ⟨rfl, rfl⟩ := h
  exact ⟨⟨rfl, fun j h1 => absurd h1 (by simp)⟩, rfl, fun i h1 => absurd h1 (by simp [thawLA])⟩
 | a :: r, b :: s, ids, fz, vs, pos, h, hl, hr, hfz, hids, hpos, ho => by
  obtain ⟨i1, i2, f1, f2, rfl, rfl, h1, h2⟩ := h
  match vs, hl, hr with
  | v :: vs, hl, hr =>
   have k1 := expA_thaw (pos := pos) hg hOk h1 (hr 0 (by simp) (by simp)) (fun i hi => hfz i (by simp [hi])) (fun i hi => hids i (by simp [hi])) (fun j hj => by
    rw [hpos j (by simp; omega), List.getElem?_append_left hj]) ho.1
   have k2 := expLA_thaw hg hOk r s i2 f2 vs (pos + i1.length) h2 (by simpa using hl) (fun i g1 g2 => hr (i + 1) (by simpa using g1) (by simpa using g2)) (fun i hi => hfz i (by simp [hi])) (fun i hi => hids i (by simp [hi])) (fun j hj => by
    rw [Nat.add_assoc, hpos (i1.length + j) (by simp; omega), List.getElem?_append_right (by omega)]
    congr 1; omega) ho.2
   have e : E1.k + (pos + i1.length) = E1.k + pos + (blksA b).length := by rw [k1.1.1]; omega
   rw [e] at k2
   refine ⟨⟨by simp [blksLA, k1.1.1, k2.1.1], fun j g1 g2 => ?_⟩, by simp [thawLA, k2.2.1], fun i g1 g2 => ?_⟩
   · have hl1 := k1.1.1
     by_cases hj : j < i1.length
     · simp only [blksLA]
       rw [List.getElem_append_left hj, List.getElem_append_left (by omega)]
       exact k1.1.2 j hj (by omega)
     · simp only [blksLA] at g2 ⊢
       simp only [List.length_append] at g1 g2
       rw [List.getElem_append_right (by omega), List.getElem_append_right (by omega)]
       have := k2.1.2 (j - i1.length) (by omega) (by rw [← k2.1.1]; omega)
       simp only [hl1] at this ⊢
       exact this
   · cases i with
     | zero => exact k1.2
     | succ i => exact k2.2.2 i (by simpa [thawLA] using g1) (by simpa using g2)
  | [], hl, _ => simp at hl
 | [], _ :: _, _, _, _, _, h, _, _, _, _, _, _ => h.elim
 | _ :: _, [], _, _, _, _, h, _, _, _, _, _, _ => h.elim
theorem expR_thaw (hg : Good w0 E' M') (hOk : ∀ a v, Ok a → Rep (E'.without FZ) a v → Rep (E1.import (E'.without FZ) IDS) a v)
 {a b : AV} {ids fz : List Nat} {v : Value} (h : ExpR M' a b ids fz) (hr : Rep E' a v) (hfz : ∀ i ∈ fz, i ∈ FZ) (hids : ∀ i ∈ ids, i ∉ FZ) (hpos : ∀ j, j < ids.length → IDS[0 + j]? = ids[j]?) (ho : OkR Ok b) :
 (ids.length = (blks b).length ∧ ∀ j (h1 : j < ids.length) (h2 : j < (blks b).length), (M'.without FZ).get ids[j] = some (blks b)[j]) ∧ Rep (E1.import (E'.without FZ) IDS) (thaw (E1.k + 0) b) v := by
 cases a with
 | t cs =>
  cases b with
  | t ds =>
   cases hr with
   | t _ ys hl hr =>
    have := expLA_thaw (pos := 0) hg hOk cs ds ids fz ys.toList h (by simpa using hl) (fun i h1 h2 => by simpa using hr i h1 (by simpa using h2)) hfz hids hpos ho
    refine ⟨this.1, .t _ ys (by rw [this.2.1]; exact hl) (fun i h1 h2 => by have := this.2.2 i h1 (by simpa using h2); rw [Array.getElem_toList] at this; exact this)⟩
  | _ =>
   have := h
   simp only [ExpR, ExpA, ExpC] at this
   obtain ⟨t1, _⟩ := this
   first | (cases t1.g; done) | (cases t1.t; done) | (cases t1.toG; done) | (cases t1.toT; done)
 | _ =>
  cases b with
  | t ds =>
   have := h
   simp only [ExpR, ExpA, ExpC] at this
   obtain ⟨t1, _⟩ := this
   first | (cases t1.g; done) | (cases t1.t; done) | (cases t1.toG; done) | (cases t1.toT; done)
  | _ =>
   have h' := h
   simp only [ExpR] at h'
   exact expA_thaw hg hOk h' hr hfz hids hpos ho
end
end Go.Ab
namespace Go.Ab
open Go Go.RowKit
variable {pf : Value → Mem → Prop}
theorem ICall.up {P : Program} {f : FuncId} {args : List AV} {M : Mem} {K : AV → Mem → Prop} (h : ICall P f args M K) : ICallG pf P f args M K :=
 ⟨h.1, fun w0 E vs h1 h2 h3 => Calls.mono' (h.2 w0 E vs h1 h2 h3) fun _ _ hp => hp.imp id fun ⟨_, _, _, _, hx, _⟩ => hx.elim⟩
theorem ICall.mono {P : Program} {f : FuncId} {args : List AV} {M : Mem} {K K' : AV → Mem → Prop} (h : ICallG pf P f args M K) (hk : ∀ a M, K a M → K' a M) : ICallG pf P f args M K' :=
 ⟨h.1, fun w0 E vs h1 h2 h3 => Calls.mono' (h.2 w0 E vs h1 h2 h3) fun _ _ hp => hp.imp (fun ⟨v, E', M', a, e1, e2, e3, e4, e5, e6⟩ => ⟨v, E', M', a, e1, e2, e3, e4, e5, hk _ _ e6⟩) id⟩
def Env.callee (E1 : Env) : Env := ⟨E1.w, fun _ => none, 0, fun b => E1.hid b ∨ ∃ i q, E1.ad i = some q ∧ 0 < q.cp ∧ q.b = b⟩
theorem callee_good {w0 : World} {E1 : Env} {M1 : Mem} (hg : Good w0 E1 M1) : Good E1.w E1.callee ⟨[], 0⟩ := by
 refine { below := hg.below.next hg.below.size, k := rfl, lt := ?_, gone := fun _ _ => rfl, held := ?_, hid := ?_, old := fun b h => ?_, inj := ?_ }
 · intro _ _ h; cases h
 · intro _ _ h; cases h
 · intro _ _ h; cases h
 rotate_left
 · intro _ _ _ _ _ h; cases h
 rcases h with h | ⟨i, q, h1, h2, rfl⟩
 · exact hg.old b h
 · exact (hg.lt_b h1 h2).2
theorem callee_z {E1 : Env} {b : Nat} (h : E1.Z b) : E1.callee.Z b :=
 ⟨h.1, fun h2 => h2.elim h.2.1 fun ⟨i, q, h1, h2, h3⟩ => h.2.2 i q h1 h2 h3, fun _ _ h => by cases h⟩
theorem callee_rep {E1 : Env} {a : AV} {v : Value} (hr : Rep E1 a v) (hu : Under 0 a) : Rep E1.callee a v := hr.pure (fun _ h => ⟨callee_z h, rfl⟩) hu
def Args (M : Mem) (ids : List Nat) : List AV → List AV → Prop
 | [], [] => True
 | a :: r, b :: s => (VOkA M a ∧ (∀ i ∈ idsA a, i ∈ ids) ∧ Weak (viewA M a) b ∧ Under 0 b) ∧ Args M ids r s
 | _, _ => False
theorem Args.len {M : Mem} {ids : List Nat} : ∀ {l m : List AV}, Args M ids l m → l.length = m.length
 | [], [], _ => rfl
 | a :: r, b :: s, h => by simp [h.2.len]
 | [], _ :: _, h => h.elim
 | _ :: _, [], h => h.elim
theorem Args.get {M : Mem} {ids : List Nat} : ∀ {l m : List AV}, Args M ids l m → ∀ i (h1 : i < l.length) (h2 : i < m.length), VOkA M l[i] ∧ (∀ j ∈ idsA l[i], j ∈ ids) ∧ Weak (viewA M l[i]) m[i] ∧ Under 0 m[i]
 | a :: r, b :: s, h, 0, _, _ => h.1
 | a :: r, b :: s, h, i + 1, h1, h2 => h.2.get i (by simpa using h1) (by simpa using h2)
 | [], [], _, i, h1, _ => absurd h1 (by simp)
 | [], _ :: _, h, _, _, _ => h.elim
 | _ :: _, [], h, _, _, _ => h.elim
section
variable {P : Program} {f : FuncId} {args args' : List AV} {M : Mem} {res : AV} {K : AV → Mem → Prop}
theorem callee_args {w0 : World} {E : Env} (hg : Good w0 E M) {ids : List Nat} (ha : Args M ids args args') {vs : Array Value} (hr : ∀ i (h1 : i < args.length) (h2 : i < vs.size), Rep E args[i] vs[i]) :
 ∀ i (h1 : i < args'.length) (h2 : i < vs.size), Rep (E.without ids).callee args'[i] vs[i] := fun i h1 h2 => by
 have h3 : i < args.length := by rw [ha.len]; exact h1
 obtain ⟨g1, g2, g3, g4⟩ := ha.get i h3 h1
 have := rep_viewA hg (hr i h3 h2) g1 g2
 exact callee_rep (g3.rep this) g4
theorem OkA.cells {Ok : AV → Prop} : ∀ {ds : List AV}, OkL Ok ds → ∀ b ∈ blksL ds, ∀ i (hi : i < b.xs.length), ∀ j (hj : j < b.xs[i].cells.length), Ok b.xs[i].cells[j]
 | [], _, b, hb => by simp [blksL] at hb
 | a :: r, h, b, hb => by
  simp only [blksL, List.mem_append] at hb
  rcases hb with hb | hb
  · cases a <;> simp only [blksC, List.not_mem_nil, List.mem_singleton] at hb
    subst hb
    exact h.1
  · exact OkA.cells h.2 b hb
theorem OkA.cellsA {Ok : AV → Prop} {a : AV} (h : OkA Ok a) : ∀ b ∈ blksA a, ∀ i (hi : i < b.xs.length), ∀ j (hj : j < b.xs[i].cells.length), Ok b.xs[i].cells[j] := by
 intro b hb
 cases a with
 | g cs => exact OkA.cells (ds := cs) h b hb
 | o T sz xs =>
  simp only [blksA, blksC, List.mem_singleton] at hb
  subst hb
  exact h
 | _ => simp [blksA, blksC] at hb
theorem OkLA.cells {Ok : AV → Prop} : ∀ {ds : List AV}, OkLA Ok ds → ∀ b ∈ blksLA ds, ∀ i (hi : i < b.xs.length), ∀ j (hj : j < b.xs[i].cells.length), Ok b.xs[i].cells[j]
 | [], _, b, hb => by simp [blksLA] at hb
 | a :: r, h, b, hb => by
  simp only [blksLA, List.mem_append] at hb
  rcases hb with hb | hb
  · exact OkA.cellsA h.1 b hb
  · exact OkLA.cells h.2 b hb
theorem OkR.cells {Ok : AV → Prop} {a : AV} (h : OkR Ok a) : ∀ b ∈ blks a, ∀ i (hi : i < b.xs.length), ∀ j (hj : j < b.xs[i].cells.length), Ok b.xs[i].cells[j] := by
 intro b hb
 cases a with
 | t cs => exact OkLA.cells (ds := cs) h b hb
 | _ =>
  have h' := h
  simp only [OkR] at h'
  exact OkA.cellsA h' b hb
theorem come_back {w0 : World} {E2 E' : Env} {M2 M' : Mem} {Ok : AV → Prop} {FZ IDS : List Nat} {a : AV} {v : Value} (hg2 : Good w0 E2 M2) (hg : Good E2.w E' M') (hr : Rep E' a v) (he : ExpR M' a res IDS FZ) (hn : IDS.Nodup) (hd : ∀ i ∈ IDS, i ∉ FZ)
 (hOk : ∀ a v, Ok a → Rep (E'.without FZ) a v → Rep (E2.import (E'.without FZ) IDS) a v) (hres : OkR Ok res) :
 Good w0 (E2.import (E'.without FZ) IDS) (M2.adds (blks res)) ∧ Later E2 (E2.import (E'.without FZ) IDS) ∧ Rep (E2.import (E'.without FZ) IDS) (thaw M2.k res) v := by
 obtain ⟨⟨h1, h2⟩, h3⟩ := expR_thaw (E1 := E2) (IDS := IDS) hg hOk he hr (fun _ h => h) hd (fun j _ => by rw [Nat.zero_add]) hres
 obtain ⟨g1, g2⟩ := Good.import hg2 (hg.without FZ).1 IDS (blks res) hn h1 (fun j g1 g2 => h2 j g1 g2) (fun b hb i hi j hj v hv => hOk _ v (OkR.cells hres b hb i hi j hj) hv)
 exact ⟨g1, g2, by rw [hg2.k]; exact h3⟩
theorem icall_drop (ids : List Nat) (h : PCallG pf P f args' res) (ha : Args M ids args args') (hres : OkR (Under 0) res) (hK : K (thaw M.k res) ((M.without ids).adds (blks res))) (hp : Indep pf := by exact fun _ _ _ h => h) : ICallG pf P f args M K := by
 refine ⟨h.1, fun w0 E vs hg hs hr => ?_⟩
 obtain ⟨hg1, hl1⟩ := hg.without ids
 refine Calls.mono' (h.2 E.w (E.without ids).callee vs (callee_good hg1) (by rw [hs, ha.len]) (callee_args hg ha hr)) ?_
 rintro e w' (⟨v, E', M', a, rfl, rfl, k1, k2, k3, IDS, FZ, k4, k5, k6⟩ | ⟨x, rfl, E', M', hx, rfl, k1, k2⟩)
 rotate_left
 · obtain ⟨g1, g2⟩ := Good.import hg1 k1 [] [] (by simp) rfl (fun j h1 => absurd h1 (by simp)) (fun b hb => by simp at hb)
   exact .inr ⟨x, rfl, (E.without ids).import E' [], _, hp _ _ _ hx, rfl, g1, hl1.trans g2⟩
 have hz : ∀ b, (E'.without FZ).Z b → ((E.without ids).import (E'.without FZ) IDS).Z b ∧ ((E.without ids).import (E'.without FZ) IDS).w.heap[b]? = (E'.without FZ).w.heap[b]? := fun b hb => by
  have hh : E'.hid = (E.without ids).callee.hid := k2.hid
  have hb2 : ¬ E'.hid b := hb.2.1
  rw [hh] at hb2
  refine ⟨⟨hb.1, fun h => hb2 (.inl h), fun i q hq hcp => ?_⟩, rfl⟩
  simp only [Env.import] at hq
  split at hq
  · intro e; exact hb2 (.inr ⟨i, q, hq, hcp, e⟩)
  · cases hi : IDS[i - (E.without ids).k]? with
    | none => rw [hi] at hq; cases hq
    | some j => rw [hi] at hq; exact hb.2.2 j q hq hcp
 have hkk : (M.without ids).k = M.k := by rw [hg1.k, hg.k]; rfl
 obtain ⟨g1, g2, g3⟩ := come_back (Ok := Under 0) hg1 k1 k3 k4 k5 k6 (fun a v hu hv => hv.pure hz hu) hres
 rw [hkk] at g3
 exact .inl ⟨v, (E.without ids).import (E'.without FZ) IDS, _, _, rfl, rfl, g1, hl1.trans g2, g3, hK⟩
theorem icall_keep (ids : List Nat) (h : PCallG pf P f args' res) (ha : Args M ids args args') (hres : OkR Flat res) (hK : K (thaw M.k res) (M.adds (blks res))) (hp : Indep pf := by exact fun _ _ _ h => h) : ICallG pf P f args M K := by
 refine ⟨h.1, fun w0 E vs hg hs hr => ?_⟩
 obtain ⟨hg1, hl1⟩ := hg.without ids
 refine Calls.mono' (h.2 E.w (E.without ids).callee vs (callee_good hg1) (by rw [hs, ha.len]) (callee_args hg ha hr)) ?_
 rintro e w' (⟨v, E', M', a, rfl, rfl, k1, k2, k3, IDS, FZ, k4, k5, k6⟩ | ⟨x, rfl, E', M', hx, rfl, k1, k2⟩)
 rotate_left
 · obtain ⟨g1, g2⟩ := Good.import hg k1 [] [] (by simp) rfl (fun j h1 => absurd h1 (by simp)) (fun b hb => by simp at hb)
   exact .inr ⟨x, rfl, E.import E' [], _, hp _ _ _ hx, rfl, g1, g2⟩
 obtain ⟨g1, g2, g3⟩ := come_back (Ok := Flat) hg k1 k3 k4 k5 k6 (fun a v hu hv => hv.flat hu) hres
 exact .inl ⟨v, E.import (E'.without FZ) IDS, _, _, rfl, rfl, g1, g2, g3, hK⟩
end
theorem pcall_body {P : Program} {tab : Tab} (hT : TabOk P tab) {f : FuncId} {fn : Func} {c : Code} {args : List AV} {res : AV} (hf : P.funcs[f]? = some fn) (hb : fn.body = some c)
 (hn : (fn.name == "runtime.NumGoroutine") = false) (hl : args.length ≤ fn.ntmps) (h : awG NoP P tab c (retK tab fn fun a M => Exp M a res) ⟨mkSlots 0 args, ⟨[], 0⟩, fn.ntmps⟩) : PCall P f args res :=
 icall_body hT hf hb hn hl (aw_sound hT c _ _ h)
end Go.Ab
namespace Go.Ab
open Go Go.RowKit
def TI.fine (i : TI) : Bool := i.z.length == i.sz && i.z.all (fun v => v.oneCell') && i.zero.cells.size == i.sz
theorem TOk.mk' {P : Program} {t : TypeId} {i : TI} (h : (P.info? t).map (fun i => (i.zero, i.size, i.bytes)) = some (some i.zero, i.sz, i.by')) (k : KOk P t i.k) (hf : i.fine = true) (h8 : t = U8T → i.z = [.int .u8 0] := by first | (intro _; rfl) | (exact fun h => absurd h (by decide))) : TOk P t i := by
 simp only [TI.fine, Bool.and_eq_true, beq_iff_eq, List.all_eq_true] at hf
 exact ⟨h, k, hf.1.1, hf.1.2, hf.2, h8⟩
def TabAll (P : Program) : Tab → Prop
 | [] => True
 | p :: r => TOk P p.1 p.2 ∧ TabAll P r
theorem TabAll.ok {P : Program} : ∀ {tab : Tab}, TabAll P tab → TabOk P tab
 | [], _, _, _, h => by cases h
 | (t0, i0) :: r, h, t, i, he => by
  by_cases e : t0 = t
  · subst e
    simp only [assoc, Nat.beq_refl, cond_true, Option.some.injEq] at he
    subst he
    exact h.1
  · simp only [assoc, beq_ne e, cond_false] at he
    exact TabAll.ok h.2 t i he
end Go.Ab
namespace Go.Ab
open Go Go.RowKit
variable {pf : Value → Mem → Prop}
def atM (K : AV → Mem → Prop) (M : Mem) (a : AV) : Prop := K a M
def aopS (pf : Value → Mem → Prop) (P : Program) (tab : Tab) (K : ASt → Prop) (dst : Option Tmp) (op : Op) (s : ASt) : Prop := aop pf P tab s K ⟨dst, op, 0, "", #[], none⟩
def setT (sl : Slots) (N : Nat) (K : ASt → Prop) (dst : Option Tmp) (a : AV) (M : Mem) : Prop := setK ⟨sl, ⟨[], 0⟩, N⟩ K dst a M
def setX (sl : Slots) (N : Nat) (K : ASt → Prop) (dst : Option Tmp) (M : Mem) : Prop := setT sl N K dst .x M
def skS (K : ASt → Prop) (dst : Option Tmp) (s : ASt) : Prop := setK s K dst (.t []) s.m
def gS (o : Option Tmp) (w : Bool) (y n : ASt → Prop) (s : ASt) : Prop := ∃ d b, o = some d ∧ d < s.N ∧ gv (Slots.get s.sl d) w = some b ∧ if b = true then y s else n s
def gB (a : AV) (w : Bool) (y n : ASt → Prop) (s : ASt) : Prop := ∃ b, gv a w = some b ∧ if b = true then y s else n s
def condS (a : AV) (y n : ASt → Prop) (s : ASt) : Prop := condK a (y s) (n s)
def selK (o : Option Blk) (n : Nat) (K : Blk → Prop) : Prop := ∃ blk, o = some blk ∧ n = blk.xs.length ∧ K blk
section
variable {P : Program} {tab : Tab} {K : ASt → Prop} {KE : Exit → ASt → Prop} {dst : Option Tmp} {sl : Slots} {m : Mem} {N : Nat} {s : ASt}
theorem r_skip : awG pf P tab .skip KE s = KE .normal s := rfl
theorem r_label {l : Nat} : awG pf P tab (.label l) KE s = KE .normal s := rfl
theorem r_ret : awG pf P tab .ret KE s = KE .ret s := rfl
theorem r_exit {id : Nat} : awG pf P tab (.exit id) KE s = KE (.exit id) s := rfl
theorem r_region {id : Nat} {ops : Array Oper} : awG pf P tab (.region id ops false) KE s = aops pf P tab ops (KE .normal) ops.toList s := rfl
theorem r_draw {id : Nat} {ops : Array Oper} : awG pf P tab (.region id ops true) KE s = ACodeG pf P (.region id ops true) KE s := rfl
theorem r_seq {x' y : Code} : awG pf P tab (.seq x' y) KE s = awG pf P tab x' (thenK (awG pf P tab y KE) KE) s := rfl
theorem r_cond {c : Operand} {x' y : Code} : awG pf P tab (.cond c x' y) KE s = condS (ev s.sl c) (awG pf P tab x' KE) (awG pf P tab y KE) s := rfl
theorem r_block {id : Nat} {c : Code} : awG pf P tab (.block id c) KE s = awG pf P tab c (blockK id KE) s := rfl
theorem r_loop {c : Code} : awG pf P tab (.loop c) KE s = ACodeG pf P (.loop c) KE s := rfl
theorem r_then {n : ASt → Prop} : thenK n KE .normal s = n s := rfl
theorem r_thenR {n : ASt → Prop} : thenK n KE .ret s = KE .ret s := rfl
theorem r_thenE {n : ASt → Prop} {j : Nat} : thenK n KE (.exit j) s = KE (.exit j) s := rfl
theorem r_blockN {id : Nat} : blockK id KE .normal s = KE .normal s := rfl
theorem r_blockR {id : Nat} : blockK id KE .ret s = KE .ret s := rfl
theorem r_blockE {id : Nat} : blockK id KE (.exit id) s = KE .normal s := by simp [blockK]
theorem r_blockF {id j : Nat} (h : Nat.beq j id = false) : blockK id KE (.exit j) s = KE (.exit j) s := by
 have : j ≠ id := fun e => by subst e; simp at h
 simp [blockK, this]
theorem r_condT {y n : ASt → Prop} : condS (.c (.bool true)) y n s = y s := rfl
theorem r_condF {y n : ASt → Prop} : condS (.c (.bool false)) y n s = n s := rfl
theorem r_cases {b : Bool} {y n : ASt → Prop} (h1 : b = true → y s) (h2 : b = false → n s) : condS (.c (.bool b)) y n s := by cases b; exact h2 rfl; exact h1 rfl
theorem r_nil {ops : Array Oper} : aops pf P tab ops K [] s = K s := rfl
theorem r_op {ops : Array Oper} {r : List Oper} {op : Op} {ty : TypeId} {pos : String} {af : Array Edge} :
 aops pf P tab ops K (⟨dst, op, ty, pos, af, none⟩ :: r) s = aopS pf P tab (aops pf P tab ops K r) dst op s := rfl
theorem r_opg {ops : Array Oper} {r : List Oper} {op : Op} {ty : TypeId} {pos : String} {af : Array Edge} {j : Nat} {w : Bool} :
 aops pf P tab ops K (⟨dst, op, ty, pos, af, some (j, w)⟩ :: r) s = gS ((ops[j]?).bind (·.dst)) w (aopS pf P tab (aops pf P tab ops K r) dst op) (skS (aops pf P tab ops K r) dst) s := rfl
theorem r_gS {d : Tmp} {w : Bool} {y n : ASt → Prop} : gS (some d) w y n ⟨sl, m, N⟩ = (d < N ∧ gB (Slots.get sl d) w y n ⟨sl, m, N⟩) := by
 simp only [gS, gB, Option.some.injEq, eq_iff_iff]
 constructor
 · rintro ⟨_, b, rfl, h1, h2, h3⟩; exact ⟨h1, b, h2, h3⟩
 · rintro ⟨h1, b, h2, h3⟩; exact ⟨d, b, rfl, h1, h2, h3⟩
theorem gB_eq {b w : Bool} {y n : ASt → Prop} : gB (.c (.bool b)) w y n s = if b = w then y s else n s := by
 simp only [gB, gv, Option.some.injEq, exists_eq_left']
 cases b <;> cases w <;> simp
theorem r_gU {w : Bool} {y n : ASt → Prop} : gB (.t []) w y n s = n s := by simp [gB, gv]
theorem r_gTT {y n : ASt → Prop} : gB (.c (.bool true)) true y n s = y s := by simp [gB_eq]
theorem r_gFF {y n : ASt → Prop} : gB (.c (.bool false)) false y n s = y s := by simp [gB_eq]
theorem r_gTF {y n : ASt → Prop} : gB (.c (.bool true)) false y n s = n s := by simp [gB_eq]
theorem r_gFT {y n : ASt → Prop} : gB (.c (.bool false)) true y n s = n s := by simp [gB_eq]
theorem r_set {d : Tmp} {a : AV} {M : Mem} : setT sl N K (some d) a M = (d < N ∧ K ⟨insert sl d a, M, N⟩) := rfl
theorem r_set0 {a : AV} {M : Mem} : setT sl N K none a M = K ⟨sl, M, N⟩ := rfl
theorem r_setX {M : Mem} : setX sl N K dst M = setT sl N K dst .x M := rfl
theorem r_skS : skS K dst ⟨sl, m, N⟩ = setT sl N K dst (.t []) m := by cases dst <;> rfl
theorem r_atM {K : AV → Mem → Prop} {M : Mem} {a : AV} : atM K M a = K a M := rfl
theorem setT_eq {a : AV} {M : Mem} : setK ⟨sl, m, N⟩ K dst a M = setT sl N K dst a M := by cases dst <;> rfl
theorem setT_fun2 : (fun a M => setK ⟨sl, m, N⟩ K dst a M) = setT sl N K dst := by funext a M; exact setT_eq
theorem setX_fun : (fun M => setK ⟨sl, m, N⟩ K dst .x M) = setX sl N K dst := by funext M; exact setT_eq
variable {x' y c a b : Operand} {T : TypeId} {type : TypeId}
theorem o_move : aopS pf P tab K dst (.move x') ⟨sl, m, N⟩ = setT sl N K dst (ev sl x') m := setT_eq
theorem o_assign : aopS pf P tab K dst (.assign x') ⟨sl, m, N⟩ = setT sl N K dst (ev sl x') m := setT_eq
theorem o_pick : aopS pf P tab K dst (.pick c a b) ⟨sl, m, N⟩ = pickK (ev sl c) (ev sl a) (ev sl b) (atM (setT sl N K dst) m) := by
 show pickK _ _ _ (fun a => setK ⟨sl, m, N⟩ K dst a m) = _
 simp only [setT_eq]; rfl
theorem o_alloc : aopS pf P tab K dst (.alloc T) ⟨sl, m, N⟩ = tiK tab T fun ti => allocK T ti m (setT sl N K dst) := by
 rw [← setT_fun2 (m := m)]; rfl
theorem o_box : aopS pf P tab K dst (.box T x') ⟨sl, m, N⟩ = boxK T m (ev sl x') (setT sl N K dst) := by
 rw [← setT_fun2 (m := m)]; rfl
theorem o_build {ps : Array (Nat × Operand)} : aopS pf P tab K dst (.build T ps) ⟨sl, m, N⟩ = tiK tab T fun ti => bldK tab ti m (ps.toList.map fun p => (p.1, ev sl p.2)) (setT sl N K dst) ti.k := by
 rw [← setT_fun2 (m := m)]; rfl
theorem o_buildSlice {n : Nat} {ps : Array (Nat × Operand)} : aopS pf P tab K dst (.buildSlice T n ps) ⟨sl, m, N⟩ = tiK tab T fun tt => slK tt.k fun e => tiK tab e fun ti =>
 n = ps.toList.length ∧ (ps.toList.map fun p => p.1) = List.range' 0 n ∧ sliceK e ti m (ps.toList.map fun p => (p.1, ev sl p.2)) (setT sl N K dst) := by
 rw [← setT_fun2 (m := m)]; rfl
theorem o_load : aopS pf P tab K dst (.load T x') ⟨sl, m, N⟩ = tiK tab T fun ti => ti.k.known = true ∧ loadK ti m (ev sl x') (setT sl N K dst) := by
 rw [← setT_fun2 (m := m)]; rfl
theorem o_nilCheck : aopS pf P tab K dst (.nilCheck x') ⟨sl, m, N⟩ = nilCheckK (ev sl x') (atM (setT sl N K dst) m) := by
 rw [← setT_fun2 (m := m)]; rfl
theorem o_bin {op : BinOp} {yT : TypeId} : aopS pf P tab K dst (.binOp op T x' y yT) ⟨sl, m, N⟩ = tiK tab T fun ti => binK P op T ti.k m (ev sl x') (ev sl y) (setT sl N K dst) := by
 rw [← setT_fun2 (m := m)]; rfl
theorem o_un {op : UnOp} : aopS pf P tab K dst (.unOp op T x') ⟨sl, m, N⟩ = unK op (ev sl x') (atM (setT sl N K dst) m) := by
 rw [← setT_fun2 (m := m)]; rfl
theorem o_conv {S : TypeId} : aopS pf P tab K dst (.convert S T x') ⟨sl, m, N⟩ = tiK tab S fun ta => tiK tab T fun tb => ta.k.known = true ∧ cvK (Nat.beq S T) ta.k tb.k tab m (ev sl x') (setT sl N K dst) := by
 rw [← setT_fun2 (m := m)]; rfl
theorem o_makeFunc {f : FuncId} {first caps : Array Operand} : aopS pf P tab K dst (.makeFunc (.func f) first caps) ⟨sl, m, N⟩ = (mkfK f (first.toList.map fun c => ev sl c) (caps.toList.map fun c => ev sl c) fun a => setT sl N K dst a m) := by
 rw [← setT_fun2 (m := m)]; rfl
theorem o_makeSlice {l c : Operand} : aopS pf P tab K dst (.makeSlice T l c) ⟨sl, m, N⟩ = tiK tab T fun tt => slK tt.k fun e => tiK tab e fun ti => makeK e ti m (ev sl l) (ev sl c) (setT sl N K dst) := by
 rw [← setT_fun2 (m := m)]; rfl
theorem o_slice {lo hi mx : Option Operand} : aopS pf P tab K dst (.slice T x' lo hi mx) ⟨sl, m, N⟩ = tiK tab T fun tt => cutK tt.k tab m (lo.map (ev sl)) (hi.map (ev sl)) (mx.map (ev sl)) (ev sl x') (setT sl N K dst) := by
 rw [← setT_fun2 (m := m)]; rfl
theorem o_fieldAddr {f : Nat} : aopS pf P tab K dst (.fieldAddr T x' f) ⟨sl, m, N⟩ = tiK tab T fun tS => stK tS.k fun fs => f < fs.length ∧ tiK tab (fs.getD f (0, 0)).2 fun ti => fieldK fs ti f m (ev sl x') (setT sl N K dst) := by
 rw [← setT_fun2 (m := m)]; rfl
theorem o_field {f : Nat} : aopS pf P tab K dst (.field T x' f) ⟨sl, m, N⟩ = tiK tab T fun tS => stK tS.k fun fs => f < fs.length ∧ tiK tab (fs.getD f (0, 0)).2 fun ti => ti.k.known = true ∧ fieldVK fs ti f (ev sl x') (atM (setT sl N K dst) m) := by
 rw [← setT_fun2 (m := m)]; rfl
theorem o_indexAddr : aopS pf P tab K dst (.indexAddr T x' y) ⟨sl, m, N⟩ = idx2K tab T m (ev sl x') (ev sl y) (setT sl N K dst) := by
 rw [← setT_fun2 (m := m)]; rfl
theorem o_sap : aopS pf P tab K dst (.sliceToArrayPointer T x') ⟨sl, m, N⟩ = tiK tab T fun tt => arK tt.k fun n e => tiK tab e fun ti => sapK n ti.sz m (ev sl x') (setT sl N K dst) := by
 rw [← setT_fun2 (m := m)]; rfl
theorem idx2K_s {id off n : Nat} {i : AV} {KX : AV → Mem → Prop} : idx2K tab T m (.s id off n) i KX = tiK tab T fun tt => slK tt.k fun e => tiK tab e fun ti => idxK ti.sz m (.s id off n) i KX := rfl
theorem idx2K_l {sz : Nat} {xs : List AV} {i : AV} {KX : AV → Mem → Prop} : idx2K tab T m (.l sz xs) i KX = tiK tab T fun tt => slK tt.k fun e => tiK tab e fun ti => idxK ti.sz m (.l sz xs) i KX := rfl
theorem idx2K_g {a : Addr} {k : IntKind} {i : Int} {KX : AV → Mem → Prop} : idx2K tab T m (.c (.pointer (some a))) (.c (.int k i)) KX = tiK tab T fun tt => arK tt.k fun n e => tiK tab e fun ti => a.spot = none ∧ 0 ≤ i ∧ i < n ∧ KX (.c (.pointer (some ⟨a.block, a.off + i.toNat * ti.sz, none⟩))) m := rfl
theorem arK_eq {n : Nat} {e : TypeId} {KY : Nat → TypeId → Prop} : arK (.ar n e) KY = KY n e := propext ⟨fun ⟨_, _, h, h2⟩ => by injection h with h3 h4; subst h3; subst h4; exact h2, fun h => ⟨_, _, rfl, h⟩⟩
theorem o_extract {i : Nat} : aopS pf P tab K dst (.extract x' i) ⟨sl, m, N⟩ = extractK i (ev sl x') (atM (setT sl N K dst) m) := by
 rw [← setT_fun2 (m := m)]; rfl
theorem o_callF {f : FuncId} {as : Array Operand} {ts : Array TypeId} : aopS pf P tab K dst (.call ⟨.value (.func f), as, ts⟩) ⟨sl, m, N⟩ = ICallG pf P f (as.toList.map (ev sl)) m (setT sl N K dst) := by
 rw [← setT_fun2 (m := m)]
 show ICallG pf P f (as.toList.map (fun o => ev sl o) ++ []) m _ = _
 rw [List.append_nil]
theorem o_callV {f : Tmp} {as : Array Operand} {ts : Array TypeId} : aopS pf P tab K dst (.call ⟨.value (.tmp f), as, ts⟩) ⟨sl, m, N⟩ = callValK pf P m (as.toList.map (ev sl)) (setT sl N K dst) (Slots.get sl f) := by
 rw [← setT_fun2 (m := m)]; rfl
theorem o_len {t : TypeId} : aopS pf P tab K dst (.call ⟨.builtin .len, #[x'], #[t]⟩) ⟨sl, m, N⟩ = tiK tab t fun ti => lenK ti.k (ev sl x') (atM (setT sl N K dst) m) := by
 rw [← setT_fun2 (m := m)]; rfl
theorem o_append {t t2 : TypeId} : aopS pf P tab K dst (.call ⟨.builtin .append, #[x', y], #[t, t2]⟩) ⟨sl, m, N⟩ = tiK tab t fun tt => slK tt.k fun e => tiK tab e fun ti => (tiK tab t2 fun t2i => t2i.k = .str ∨ ∃ e2, t2i.k = .sl e2) ∧ appendK e ti m (ev sl x') (ev sl y) (setT sl N K dst) := by
 rw [← setT_fun2 (m := m)]; rfl
theorem o_clear {t : TypeId} : aopS pf P tab K dst (.call ⟨.builtin .clear, #[x'], #[t]⟩) ⟨sl, m, N⟩ = tiK tab t fun tt => slK tt.k fun e => tiK tab e fun ti => clearK ti m (ev sl x') (setT sl N K dst) := by
 rw [← setT_fun2 (m := m)]; rfl
theorem o_max {ts : Array TypeId} : aopS pf P tab K dst (.call ⟨.builtin .max, #[x', y], ts⟩) ⟨sl, m, N⟩ = maxK (ev sl x') (ev sl y) (atM (setT sl N K dst) m) := by
 rw [← setT_fun2 (m := m)]
 obtain ⟨ts⟩ := ts
 cases ts with
 | nil => rfl
 | cons _ ts => cases ts <;> rfl
theorem o_min {ts : Array TypeId} : aopS pf P tab K dst (.call ⟨.builtin .min, #[x', y], ts⟩) ⟨sl, m, N⟩ = minK (ev sl x') (ev sl y) (atM (setT sl N K dst) m) := by
 rw [← setT_fun2 (m := m)]
 obtain ⟨ts⟩ := ts
 cases ts with
 | nil => rfl
 | cons _ ts => cases ts <;> rfl
theorem o_store : aopS pf P tab K dst (.store T x' y) ⟨sl, m, N⟩ = tiK tab T fun ti => storeK ti m (ev sl x') (ev sl y) (setX sl N K dst) := by
 rw [← setX_fun (m := m)]; rfl
end
theorem ev_tmp {sl : Slots} {t : Tmp} : ev sl (.tmp t) = (assoc sl t).getD .x := rfl
theorem ev_const {sl : Slots} {v : Value} : ev sl (.const v) = constAV v := rfl
theorem ev_global {sl : Slots} {g : Nat} : ev sl (.global g) = .c (.pointer (some ⟨g, 0, none⟩)) := rfl
theorem ev_func {sl : Slots} {f : FuncId} : ev sl (.func f) = .f f [] := rfl
theorem cv_int {k : IntKind} {n : Int} : constAV (.int k n) = .c (.int k n) := rfl
theorem cv_bool {b : Bool} : constAV (.bool b) = .c (.bool b) := rfl
theorem cv_string {b : ByteArray} : constAV (.string b) = .c (.string b) := rfl
theorem cv_slice {A : Option Addr} {n c : Nat} : constAV (.slice A n c) = .c (.slice A n c) := rfl
theorem cv_ptr {A : Option Addr} : constAV (.pointer A) = .c (.pointer A) := rfl
theorem nbeq {a b : Nat} : Nat.beq a b = decide (a = b) := by
 by_cases h : a = b
 · subst h; simp
 · rw [beq_ne h]; simp [h]
theorem nble {a b : Nat} : Nat.ble a b = decide (a ≤ b) := by
 by_cases h : a ≤ b
 · rw [Nat.ble_eq_true_of_le h]; simp [h]
 · simp only [h, decide_false]
   exact Bool.eq_false_iff.2 fun e => h (Nat.le_of_ble_eq_true e)
theorem tkAlt {e : TypeId} : (TK.sl e = TK.str ∨ ∃ e2, TK.sl e = TK.sl e2) = True := eq_true (.inr ⟨e, rfl⟩)
theorem tkAlt2 : (TK.str = TK.str ∨ ∃ e2, TK.str = TK.sl e2) = True := eq_true (.inl rfl)
theorem encB_toInt {b : UInt8} : encB b = .c (.int .u8 b.toNat) := rfl
theorem under_c {k : Nat} {v : Value} : Under k (.c v) = True := eq_true (.c v)
theorem under_x {k : Nat} : Under k .x = True := eq_true .x
theorem under_s {k id off n : Nat} : Under k (.s id off n) = (id < k) := propext ⟨fun h => by cases h; assumption, .s _ _ _⟩
theorem under_p {k id i j n : Nat} : Under k (.p id i j n) = (id < k) := propext ⟨fun h => by cases h; assumption, .p _ _ _ _⟩
theorem under_l {k sz : Nat} {xs : List AV} : Under k (.l sz xs) = UnderL k xs := propext ⟨fun h => by cases h; assumption, .l _ _⟩
theorem underL_nil {k : Nat} : UnderL k [] = True := eq_true fun i h => absurd h (by simp)
theorem underL_cons {k : Nat} {a : AV} {r : List AV} : UnderL k (a :: r) = ((∀ x ∈ a.cells, Under k x) ∧ UnderL k r) := propext ⟨fun h => ⟨fun x hx => by
 obtain ⟨j, hj, rfl⟩ := List.getElem_of_mem hx
 exact h 0 (by simp) j hj, fun i hi j hj => h (i + 1) (by simpa using hi) j hj⟩, fun ⟨h1, h2⟩ i hi j hj => by
 cases i with
 | zero => exact h1 _ (List.getElem_mem _)
 | succ i => exact h2 i (by simpa using hi) j hj⟩
theorem underL_append {k : Nat} {l r : List AV} : UnderL k (l ++ r) = (UnderL k l ∧ UnderL k r) := by
 induction l with
 | nil => simp [underL_nil]
 | cons a l ih => simp only [List.cons_append, underL_cons, ih, and_assoc]
theorem underL_B {k : Nat} {l : List UInt8} : UnderL k (l.map encB) = True := by
 induction l with
 | nil => simp [underL_nil]
 | cons a l ih => simp only [List.map_cons, underL_cons, ih, encB, AV.cells, List.mem_singleton, forall_eq, under_c, and_self]
theorem underL_B1 {k : Nat} {b : UInt8} : UnderL k [encB b] = True := underL_B (l := [b])
theorem mapB_snoc {l : List UInt8} {b : UInt8} : l.map encB ++ [encB b] = (l ++ [b]).map encB := by simp
theorem pureL_eq {xs : List AV} : PureL xs = UnderL 0 xs := rfl
theorem pureB (l : List UInt8) : PureL (l.map encB) := by rw [pureL_eq, underL_B]; trivial
theorem exp_own {M : Mem} {id n : Nat} {T : TypeId} {sz : Nat} {xs : List AV} (h : M.get id = some ⟨T, sz, xs⟩) (hn : n = xs.length) (hp : PureL xs) : Exp M (.s id 0 n) (.o T sz xs) :=
 ⟨[id], [], ⟨rfl, rfl, rfl, h, hn, hp⟩, by simp, by simp⟩
theorem exp_c {M : Mem} {v : Value} : Exp M (.c v) (.c v) := ⟨[], [], by
 have h : ExpC M (.c v) (.c v) [] [] := by unfold ExpC; exact ⟨.refl _, .c v, rfl, rfl⟩
 exact h, by simp, by simp⟩
theorem wrap_u64 {n : Nat} (h : n < 18446744073709551616) : IntKind.u64.wrap (n : Int) = n := by rw [IntKind.wrap_u64]; omega
theorem wrap_u8 {n : Int} : IntKind.u8.wrap n = n % 256 := IntKind.wrap_u8 n
theorem shr_nat {n k : Nat} : (n : Int).fdiv (2 ^ k) = ((n / 2 ^ k : Nat) : Int) := by
 rw [Int.fdiv_eq_ediv_of_nonneg _ (Int.pow_nonneg (by decide))]
 norm_cast
theorem tiK_of {tab : Tab} {t : TypeId} {ti : TI} (h : assoc tab t = some ti) (K : TI → Prop) : tiK tab t K = K ti := by
 simp only [tiK, h, Option.some.injEq, exists_eq_left']
theorem slK_eq {e : TypeId} {K : TypeId → Prop} : slK (.sl e) K = K e := by simp only [slK, TK.sl.injEq, exists_eq_left']
theorem stK_eq {fs : List (Nat × TypeId)} {K : List (Nat × TypeId) → Prop} : stK (.st fs) K = K fs := by simp only [stK, TK.st.injEq, exists_eq_left']
theorem blkK_sel {M : Mem} {id n : Nat} {K : Blk → Prop} : blkK M id n K = selK (M.get id) n K := rfl
theorem selK_eq {blk : Blk} {n : Nat} {K : Blk → Prop} : selK (some blk) n K = (n = blk.xs.length ∧ K blk) := by simp only [selK, Option.some.injEq, exists_eq_left']
theorem elem_0 {x' : AV} {xs : List AV} {K : AV → Prop} : Elem (x' :: xs) 0 K = K x' := by simp [Elem]
theorem elem_s {x' : AV} {xs : List AV} {i : Nat} {K : AV → Prop} : Elem (x' :: xs) (i + 1) K = Elem xs i K := by simp [Elem]
theorem elem_B {l : List UInt8} {i : Nat} {K : AV → Prop} : Elem (l.map encB) i K = (i < l.length ∧ K (encB (l.getD i 0))) := by
 simp only [Elem, List.length_map, List.getElem_map, eq_iff_iff]
 constructor
 · rintro ⟨h, k⟩
   refine ⟨h, ?_⟩
   rw [List.getD_eq_getElem?_getD, List.getElem?_eq_getElem h]; exact k
 · rintro ⟨h, k⟩
   refine ⟨h, ?_⟩
   rw [List.getD_eq_getElem?_getD, List.getElem?_eq_getElem h] at k; exact k
end Go.Ab
namespace Go.Ab
open Go Go.RowKit
variable {pf : Value → Mem → Prop}
def noGotoK (K : Exit → ASt → Prop) : Exit → ASt → Prop
 | .goto _, _ => False
 | e, s => K e s
theorem r_noGotoN {K : Exit → ASt → Prop} {s : ASt} : noGotoK K .normal s = K .normal s := rfl
theorem r_noGotoR {K : Exit → ASt → Prop} {s : ASt} : noGotoK K .ret s = K .ret s := rfl
theorem r_noGotoE {K : Exit → ASt → Prop} {s : ASt} {j : Nat} : noGotoK K (.exit j) s = K (.exit j) s := rfl
theorem stepR_scope' {P : Program} {b : Frame} {a : Act} {k : List Item} {cs : List Frame} {w : World} {c : Code} : step P (lone (b.atR a (.code (.scope c) :: k)) cs w) = .next (lone (b.atR a (.code c :: .inScope c :: k)) cs w) :=
 step_lone_go (by simp [stepG, stepG.exec, Frame.atR])
theorem stepR_inScope' {P : Program} {b : Frame} {a : Act} {k : List Item} {cs : List Frame} {w : World} {c : Code} : step P (lone (b.atR a (.inScope c :: k)) cs w) = .next (lone (b.atR a k) cs w) :=
 step_lone_go (by simp [stepG, stepG.exec, Frame.atR])
theorem wpIn_scope_straight {F : Fence} {n : Nat} {P : Program} {Q : Exit → Act → World → Prop} {a : Act} {w : World} {c : Code} (h : c.wpIn F n P (Exit.noGoto Q) a w) : (Code.scope c).wpIn F n P Q a w := by
 intro b k cs hro hb hr
 have h0 : (lone (b.atR a (.code (.scope c) :: k)) cs w).fenced P F := fenced_calm hb hr rfl
 obtain ⟨e, a₁, w₁, hq, harr⟩ := h b (.inScope c :: k) cs hro hb hr
 cases e with
 | normal => exact ⟨.normal, a₁, w₁, hq, .head h0 stepR_scope' (StepsIn.trans harr (.one (fenced_calm hb hr rfl) stepR_inScope'))⟩
 | exit id =>
  have hx : exitTo id (.inScope c :: k) = exitTo id k := by simp [exitTo]
  exact ⟨.exit id, a₁, w₁, hq, fun k' hk => .head h0 stepR_scope' (harr.1 k' (by rw [hx]; exact hk)),
   fun hr' hk => let ⟨k₁, h1, h2⟩ := harr.2 hr' (by rw [hx]; exact hk); ⟨k₁, h1, .head h0 stepR_scope' h2⟩⟩
 | goto l => exact hq.elim
 | ret => exact ⟨_, a₁, w₁, hq, .of_steps (.one h0 stepR_scope') harr⟩
 | panic ch => exact ⟨_, a₁, w₁, hq, .of_steps (.one h0 stepR_scope') harr⟩
 | outgrown => exact ⟨_, a₁, w₁, hq, .of_steps (.one h0 stepR_scope') harr⟩
theorem scope_rule {P : Program} {tab : Tab} (hT : TabOk P tab) {c : Code} {K : Exit → ASt → Prop} {s : ASt} (h : awG pf P tab c (noGotoK K) s) : ACodeG pf P (.scope c) K s := fun hK ro w0 E D a hs => by
 refine wpIn_scope_straight (Code.wpIn_mono ?_ (aw_sound hT c _ s h (fun x s hx => hK x s hx) ro w0 E D a hs))
 rintro e a' w' ⟨E', s', h1, h2, h3, h4⟩
 cases e <;> first | exact ⟨E', s', h1, h2, h3, h4⟩ | exact h4.elim
theorem opK_ev {P : Program} {tab : Tab} {sl sl' : Slots} {M : Mem} {N N' : Nat} {K : AV → Mem → Prop} {op : Op} (h : ∀ x ∈ op.operands, ev sl x = ev sl' x) :
 opK pf P tab ⟨sl, M, N⟩ K op = opK pf P tab ⟨sl', M, N'⟩ K op := by
 have hmap : ∀ ps : Array (Nat × Operand), (∀ x ∈ ps.toList.map (·.2), ev sl x = ev sl' x) → (ps.toList.map fun p => (p.1, ev sl p.2)) = ps.toList.map fun p => (p.1, ev sl' p.2) := fun ps hp =>
  List.map_congr_left fun p hm => by rw [hp p.2 (List.mem_map.2 ⟨p, hm, rfl⟩)]
 have harr : ∀ ps : Array Operand, (∀ x ∈ ps, ev sl x = ev sl' x) → (ps.toList.map fun o => ev sl o) = ps.toList.map fun o => ev sl' o := fun ps hp =>
  List.map_congr_left fun p hm => hp p (by simpa using hm)
 cases op <;> simp only [Op.operands] at h <;> try rfl
 case build T ps => simp only [opK, hmap ps fun x hx => h x (by simpa using hx)]
 case buildSlice T n ps => simp only [opK, hmap ps fun x hx => h x (by simpa using hx)]
 case makeFunc fn first caps =>
  cases fn <;> try rfl
  simp only [opK, harr caps fun x hx => h x (by simp [hx]), harr first fun x hx => h x (by simp [hx])]
 case slice T x lo hi mx =>
  have hx := h x (by simp)
  have hl : lo.map (fun o => ev sl o) = lo.map fun o => ev sl' o := by
   cases lo with
   | none => rfl
   | some o => simp only [Option.map_some]; rw [h o (by simp)]
  have hh : hi.map (fun o => ev sl o) = hi.map fun o => ev sl' o := by
   cases hi with
   | none => rfl
   | some o => simp only [Option.map_some]; rw [h o (by simp)]
  have hm : mx.map (fun o => ev sl o) = mx.map fun o => ev sl' o := by
   cases mx with
   | none => rfl
   | some o => simp only [Option.map_some]; rw [h o (by simp)]
  simp only [opK, hx, hl, hh, hm]
 case call c =>
  obtain ⟨callee, as, ts⟩ := c
  simp only [Call.operands] at h
  have ha := harr as fun x hx => h x (by simp [hx])
  cases callee with
  | value f => simp only [opK, ha, h f (by simp)]
  | invoke r m => rfl
  | builtin b => simp only [opK, ha]
 all_goals
  simp only [List.mem_toArray, List.mem_cons, List.not_mem_nil, or_false, forall_eq_or_imp, forall_eq] at h
  simp only [opK, h]
end Go.Ab
namespace Go.Ab
open Go Go.RowKit
theorem Good.grow {w0 : World} {E : Env} {M : Mem} (hg : Good w0 E M) {w' : World} (hb : Below E.w.heap.size E.w w') : Good w0 ⟨w', E.ad, E.k, E.hid⟩ M ∧ Later E ⟨w', E.ad, E.k, E.hid⟩ := by
 have hl : Later E ⟨w', E.ad, E.k, E.hid⟩ := ⟨fun b h => ⟨⟨Nat.lt_of_lt_of_le h.1 hb.size, h.2.1, h.2.2⟩, hb.block b h.1⟩, Nat.le_refl _, fun i _ q hq => ⟨q, hq, Nat.le_refl _, fun _ => rfl, fun _ _ => ⟨rfl, rfl⟩⟩, rfl, fun b h => hb.block b (hg.old b h)⟩
 refine ⟨⟨hg.below.trans (hb.mono hg.below.size), hg.k, hg.lt, hg.gone, fun i blk hi => ?_, hg.hid, fun b h => Nat.lt_of_lt_of_le (hg.old b h) hb.size, hg.inj⟩, hl⟩
 obtain ⟨q, h1, h2, h3, h4, h5⟩ := hg.held i blk hi
 exact ⟨q, h1, h2, h3, h4, fun hcp => ⟨(h5 hcp).1, ((h5 hcp).2).later hl (hb.block _ (backed_lt (h5 hcp).2))⟩⟩
theorem Good.lt_b' {w0 : World} {E : Env} {M : Mem} (hg : Good w0 E M) {i : Nat} {q : At} (hq : E.ad i = some q) (hcp : 0 < q.cp) : w0.heap.size ≤ q.b ∧ q.b < E.w.heap.size := by
 cases hM : M.get i with
 | none => rw [hg.gone i hM] at hq; cases hq
 | some blk =>
  obtain ⟨q1, b1, _, _, _, b5⟩ := hg.held i blk hM
  rw [hq] at b1; cases b1
  exact ⟨(b5 hcp).1, backed_lt (b5 hcp).2⟩
def litK (ti : TI) (M : Mem) (ps : List (Nat × AV)) (K : AV → Mem → Prop) : Prop :=
 AllVP M ps ∧ idsP ps = [] ∧ 0 < ti.sz ∧ ps.length * ti.sz ≤ 16777216 ∧ AllSz ti.sz ((viewP M ps).map (·.2)) ∧ K (.l ti.sz ((viewP M ps).map (·.2))) M
theorem lit_out {P : Program} {w0 : World} {E : Env} {M : Mem} {t e : TypeId} {ti : TI} {n : Nat} {ps : List (Nat × AV)} {vs : Array (Nat × Value)} {K : AV → Mem → Prop}
 (hg : Good w0 E M) (hS : KOk P t (.sl e)) (ht : TOk P e ti) (hr : RepP E ps vs.toList) (hn : n = ps.length) (hix : ps.map (·.1) = List.range' 0 ps.length) (h : litK ti M ps K) : Out P w0 E (Instr.buildSlice t n vs) K := by
 obtain ⟨h1, hids, hsz, hmax, h2, h3⟩ := h
 have hrv := rep_viewP (ids := []) hg ps vs.toList hr h1 (by rw [hids]; exact fun _ h => h)
 rw [without_nil] at hrv
 obtain ⟨q1, q2, q3⟩ := repP_map (viewP M ps) vs.toList 0 hrv (by rw [viewP_fst, viewP_length]; exact hix)
 rw [viewP_length] at q2
 have hvs : ∀ i (hi : i < vs.toList.length), (vs.toList[i].2).cells.size = ti.sz := fun i hi => by
  have hi2 : i < (viewP M ps).length := by rw [viewP_length]; omega
  obtain ⟨c1, c2⟩ := h2.get i (by simpa using hi2)
  have := (q3 i hi2 hi).cells (by simpa using c1)
  rw [this.1]; simpa using c2
 have hzl : ti.z.toArray.size = ti.sz := by simpa using ht.z
 have hzc : ti.zero.cells.size = ti.sz := ht.zc
 obtain ⟨arr, a1, a2, a3, a4⟩ := fill_list ti.sz (vs.toList.map (·.2)) 0 ((Array.range (n * ti.sz)).map (ti.zero.cells[· % ti.zero.cells.size]!)) (fun v hv => by
  obtain ⟨p, hp, rfl⟩ := List.mem_map.1 hv
  obtain ⟨i, hi, rfl⟩ := List.mem_iff_getElem.1 hp
  exact hvs i hi) (by simp [hn]; rw [← q2]; simp)
 rw [← q1] at a1
 have hrun : (Instr.buildSlice t n vs).run P E.w = .ok (.slice (some ⟨E.w.heap.size, 0, none⟩) n n) (E.w.alloc (.cells arr e)) := by
  simp only [KOk] at hS
  have hm : ¬ n * ti.sz > 2 ^ 24 := by rw [hn]; omega
  by_cases hn0 : n * ti.sz = 0
  · have hn1 : n = 0 := by
     rcases Nat.mul_eq_zero.1 hn0 with h | h <;> omega
    have hvs0 : vs.toList = [] := List.eq_nil_of_length_eq_zero (by omega)
    rw [hvs0] at a1
    simp only [Instr.fill, Option.some.injEq] at a1
    subst a1
    subst hn1
    obtain rfl : vs = #[] := Array.toList_eq_nil_iff.1 hvs0
    simp [Instr.buildSlice, run_underlying hS, ht.run_size, Result.andThen, Instr.fill, newRow]
    have e0 : ∀ f : Nat → Value, (Array.range 0).map f = #[] := fun f => by simp
    rw [e0, e0]
  · simp only [Instr.buildSlice, Sem.run_bind, run_underlying hS, ht.run_size, Result.andThen]
    simp only [hm, hn0, if_false, Sem.run_bind, ht.run_zero, Result.andThen, Sem.run_pure, a1, newRow, run_newObj_alloc]
 have hbel : Below E.w.heap.size E.w (E.w.alloc (.cells arr e)) := (Below.refl _ _).alloc (Nat.le_refl _) _
 obtain ⟨k1, k2⟩ := hg.grow hbel
 refine ⟨_, ⟨E.w.alloc (.cells arr e), E.ad, E.k, E.hid⟩, M, _, hrun, k1, k2, ?_, h3⟩
 have hlen : ((viewP M ps).map (·.2)).length = n := by simp [viewP_length, hn]
 have hcell : (E.w.alloc (.cells arr e)).heap[E.w.heap.size]? = some (.cells arr e) := by
  show (E.w.heap.push (.cells arr e))[E.w.heap.size]? = _
  simp
 have hy : ∀ i, i < n → ∀ j, j < ti.sz → ∃ hi : i < (viewP M ps).length, ∃ hj : j < (viewP M ps)[i].2.cells.length, ∃ y, arr[i * ti.sz + j]? = some y ∧ One y ∧ Rep E ((viewP M ps)[i].2.cells[j]) y := fun i hi j hj => by
  have hi1 : i < (viewP M ps).length := by rw [viewP_length]; omega
  have hi2 : i < vs.toList.length := by rw [viewP_length] at hi1; omega
  obtain ⟨c1, c2⟩ := h2.get i (by simpa using hi1)
  simp only [List.getElem_map] at c1 c2
  obtain ⟨g1, g2⟩ := (q3 i hi1 hi2).cells c1
  have hj1 : j < (viewP M ps)[i].2.cells.length := by rw [c2]; exact hj
  have hj2 : j < (vs.toList[i].2).cells.size := by rw [g1]; exact hj1
  refine ⟨hi1, hj1, (vs.toList[i].2).cells[j], ?_, (g2 j hj1 hj2).1, (g2 j hj1 hj2).2⟩
  have := a4 i (by simpa using hi2) j hj
  simp only [Nat.zero_add, List.getElem_map] at this
  rw [this]; simp
 have hres := Rep.l (E := ⟨E.w.alloc (.cells arr e), E.ad, E.k, E.hid⟩) ti.sz ((viewP M ps).map (·.2)) E.w.heap.size 0 n (fun i j => (arr[i * ti.sz + j]?).getD undef) (by rw [hlen]; exact Nat.le_refl _)
  ⟨(by show E.w.heap.size < (E.w.heap.push (.cells arr e)).size; simp), fun h => by have := hg.old _ h; have := hg.below.size; omega, fun i q hq hcp e => by have := (hg.lt_b' hq hcp).2; omega⟩
  (fun i hi => (h2.get i hi).2) (fun i j hi hj => by
   rw [hlen] at hi
   obtain ⟨_, _, y, y1, y2, _⟩ := hy i hi j hj
   refine ⟨?_, by rw [y1]; exact y2⟩
   simp only [World.cell?, hcell, Option.isSome_none, Bool.false_eq_true, if_false, Nat.zero_add, y1, Option.getD_some]) (fun i hi j hj => by
   have hi' : i < n := by rw [← hlen]; exact hi
   have hj' : j < ti.sz := by rw [← (h2.get i hi).2]; exact hj
   obtain ⟨_, _, y, y1, _, y3⟩ := hy i hi' j hj'
   simp only [List.getElem_map] at hj ⊢
   rw [y1]
   exact y3.later k2)
 rw [hlen] at hres
 exact hres
end Go.Ab
namespace Go.Ab
open Go Go.RowKit
variable {pf : Value → Mem → Prop}
def lastW {β : Type} : β → List (Bool × β) → Nat → (Nat → Bool) → β
 | z, [], _, _ => z
 | z, p :: l, i, S => lastW (bif p.1 && S i then p.2 else z) l (i + 1) S
theorem lastW_congr {β : Type} : ∀ (l : List (Bool × β)) (z : β) (i : Nat) (S S' : Nat → Bool), (∀ j (h : j < l.length), l[j].1 = true → S (i + j) = S' (i + j)) → lastW z l i S = lastW z l i S'
 | [], _, _, _, _, _ => rfl
 | p :: l, z, i, S, S', h => by
  simp only [lastW]
  have h0 : (p.1 && S i) = (p.1 && S' i) := by
   cases hp : p.1 with
   | false => rfl
   | true => have := h 0 (by simp) hp; simpa using this
  rw [h0]
  exact lastW_congr l _ (i + 1) S S' fun j hj hl => by
   have := h (j + 1) (by simpa using hj) (by simpa using hl)
   rw [Nat.add_assoc, Nat.add_comm 1 j]; exact this
theorem lastW_none {β : Type} : ∀ (l : List (Bool × β)) (z : β) (i : Nat) (S : Nat → Bool), (∀ j (h : j < l.length), l[j].1 = true → S (i + j) = false) → lastW z l i S = z
 | [], _, _, _, _ => rfl
 | p :: l, z, i, S, h => by
  simp only [lastW]
  have h0 : (p.1 && S i) = false := by
   cases hp : p.1 with
   | false => rfl
   | true => have := h 0 (by simp) hp; simpa using this
  rw [h0]
  exact lastW_none l _ (i + 1) S fun j hj hl => by
   have := h (j + 1) (by simpa using hj) (by simpa using hl)
   rw [Nat.add_assoc, Nat.add_comm 1 j]; exact this
theorem lastW_is {β : Type} : ∀ (l : List (Bool × β)) (z : β) (i : Nat) (S : Nat → Bool) (k : Nat) (hk : k < l.length), l[k].1 = true → S (i + k) = true →
 (∀ j (h : j < l.length), k < j → l[j].1 = true → S (i + j) = false) → lastW z l i S = l[k].2
 | p :: l, z, i, S, 0, hk, h1, h2, h3 => by
  simp only [lastW]
  simp only [List.getElem_cons_zero, Nat.add_zero] at h1 h2 ⊢
  rw [h1, h2]
  exact lastW_none l _ (i + 1) S fun j hj hl => by
   have := h3 (j + 1) (by simpa using hj) (by omega) (by simpa using hl)
   rw [Nat.add_assoc, Nat.add_comm 1 j]; exact this
 | p :: l, z, i, S, k + 1, hk, h1, h2, h3 => by
  simp only [lastW, List.getElem_cons_succ]
  exact lastW_is l _ (i + 1) S k (by simpa using hk) (by simpa using h1) (by rw [Nat.add_assoc, Nat.add_comm 1 k]; exact h2) fun j hj hkj hl => by
   have := h3 (j + 1) (by simpa using hj) (by omega) (by simpa using hl)
   rw [Nat.add_assoc, Nat.add_comm 1 j]; exact this
def putO (sl : Slots) : Option Tmp → AV → Slots
 | none, _ => sl
 | some d, a => insert sl d a
theorem get_putO (sl : Slots) (o : Option Tmp) (a : AV) (t : Nat) : Slots.get (putO sl o a) t = if o = some t then a else Slots.get sl t := by
 cases o with
 | none => simp [putO]
 | some d =>
  simp only [putO, Slots.get, assoc_insert, Option.some.injEq]
  split <;> simp
def lkL (f : Nat → AV) (ts : List Nat) : Slots := ts.map fun t => (t, f t)
theorem get_lkL (f : Nat → AV) : ∀ (ts : List Nat) (t : Nat), Slots.get (lkL f ts) t = if t ∈ ts then f t else .x
 | [], t => by simp [lkL, Slots.get, assoc]
 | u :: ts, t => by
  by_cases e : u = t
  · subst e; simp [lkL, Slots.get, assoc]
  · have := get_lkL f ts t
    simp only [lkL, Slots.get, List.map_cons, assoc, beq_ne e, cond_false, List.mem_cons, Ne.symm e, false_or] at this ⊢
    exact this
def opX (pf : Value → Mem → Prop) (P : Program) (tab : Tab) (s : ASt) (K : AV → Mem → Prop) : Op → Prop
 | .store T x' y => tiK tab T fun ti => storeK ti s.m (ev s.sl x') (ev s.sl y) fun M => K .x M
 | op => opK pf P tab s K op
theorem opX_ev {P : Program} {tab : Tab} {sl sl' : Slots} {M : Mem} {N N' : Nat} {K : AV → Mem → Prop} {op : Op} (h : ∀ x ∈ op.operands, ev sl x = ev sl' x) :
 opX pf P tab ⟨sl, M, N⟩ K op = opX pf P tab ⟨sl', M, N'⟩ K op := by
 cases op
 case store T a v =>
  have h1 := h a (by simp [Op.operands])
  have h2 := h v (by simp [Op.operands])
  simp only [opX, h1, h2]
 all_goals exact opK_ev (pf := pf) (P := P) (tab := tab) (M := M) (N := N) (N' := N') (K := K) h
theorem opX_upon {P : Program} {tab : Tab} (hT : TabOk P tab) {w0 : World} {D : List Deferred} {E : Env} {s : ASt} {a : Act} {o : Oper} {K : AV → Mem → Prop} {next : Act → World → Prop} {Q : Exit → Act → World → Prop}
 (h : St w0 E D s a) (hop : opX pf P tab s K o.op) (hn : ∀ v E' M' x', Good w0 E' M' → Later E E' → Rep E' x' v → K x' M' → next (a.put o.dst v) E'.w) (hP : ∀ x w', PanOut pf w0 E x w' → Q (.panic [{ v := x, recovered := false }]) a w') : o.wp P a E.w next Q := by
 obtain ⟨dst, op, type, pos, after, guard⟩ := o
 cases op
 case store T x' y =>
  obtain ⟨ti, h1, h2⟩ := hop
  obtain ⟨E', M', k1, k2, k3, k4⟩ := store_out (P := P) h.g (hT _ _ h1) (rep_ev h.r x') (rep_ev h.r y) h2
  unfold Oper.wp
  have hrun : (execOp a.eval ⟨dst, .store T x' y, type, pos, after, guard⟩).run P E.w = .ok .skip E'.w := by
   simp only [execOp, Sem.run_bind, k1, Result.andThen, Sem.run_pure]
  rw [hrun]
  simp only [Oper.upon]
  exact hn undef E' M' .x k2 k3 (.x _) k4
 all_goals exact op_upon hT h hop hn hP
def mkZK (ti : TI) (M : Mem) : AV → AV → (AV → Mem → Prop) → Prop
 | .c (.int _ n), .c (.int _ c), K => n = c ∧ (ti.k.agg = true ∨ 0 < ti.sz) ∧ 0 ≤ c ∧ ti.by' * c.toNat ≤ 281474976710656 ∧ c ≤ 9223372036854775807 ∧ K (.l ti.sz (List.replicate c.toNat (zeroAV ti))) M
 | _, _, _ => False
theorem mkZ_out {P : Program} {w0 : World} {E : Env} {M : Mem} {t e : TypeId} {ti : TI} {a b : AV} {u v : Value} {K : AV → Mem → Prop} (hg : Good w0 E M)
 (hS : KOk P t (.sl e)) (ht : TOk P e ti) (hr : Rep E a u) (hx : Rep E b v) (h : mkZK ti M a b K) : Out P w0 E (Instr.makeSlice t u v) K := by
 obtain ⟨f, g1, g2, g3, g4⟩ := ht.ex
 cases hr <;> try exact h.elim
 cases hx <;> (cases u <;> try exact h.elim)
 cases v <;> try exact h.elim
 rename_i k n _ k' c _
 obtain ⟨rfl, hs, h0, hby, hmx, hK⟩ := h
 have hc : ((n.toNat : Nat) : Int) = n := Int.toNat_of_nonneg h0
 obtain ⟨w', r1, r2, r3⟩ := run_make_full (P := P) E.w E.w.heap.size t e f ti.zero ti.sz hS g1 g2 g3 k k' n.toNat (by rw [g4]; exact hby) (by simp only [maxLen]; omega) (Nat.le_refl _)
 rw [hc] at r1
 generalize hN : n.toNat = N at *
 have hbel : Below E.w.heap.size E.w w' := ⟨r3.os, r3.tape, r3.output, r3.size, fun b hb => r3.block b hb (by simp)⟩
 obtain ⟨k1, k2⟩ := hg.grow hbel
 have hm := rep_made ht hs E N
 refine ⟨_, ⟨w', E.ad, E.k, E.hid⟩, M, _, r1, k1, k2, ?_, hK⟩
 obtain ⟨ho1, ho2⟩ := r2
 rcases ho2 with ⟨h, _⟩ | ⟨g', cap', cur, h, hb, hh, hnc, hcm, hcs, htk⟩
 · simp at h
 · simp only [Value.slice.injEq, Option.some.injEq, Addr.mk.injEq, and_true, true_and] at h
   obtain ⟨rfl, rfl⟩ := h
   have hlen : (List.replicate N (zeroAV ti)).length = N := by simp
   have hcell : ∀ i j, i < N → j < ti.sz → ∃ y, cur[i * ti.sz + j]? = some y ∧ One y ∧ ∀ hj : j < (zeroAV ti).cells.length, Rep E (zeroAV ti).cells[j] y := fun i j hi hj => by
    obtain ⟨m1, m2⟩ := hm i (by rw [hlen]; exact hi)
    simp only [List.getElem_replicate] at m1 m2
    obtain ⟨y, y1, y2, y3⟩ := m2 j (by omega)
    refine ⟨y, ?_, y2, fun _ => y3⟩
    rw [← htk] at y1
    have hlt : i * ti.sz + j < N * ti.sz := by
     have : (i + 1) * ti.sz ≤ N * ti.sz := Nat.mul_le_mul_right _ hi
     rw [Nat.add_mul] at this; omega
    rw [List.getElem?_take_of_lt hlt] at y1
    simpa using y1
   have hres := Rep.l (E := ⟨w', E.ad, E.k, E.hid⟩) ti.sz (List.replicate N (zeroAV ti)) E.w.heap.size 0 N (fun i j => (cur[i * ti.sz + j]?).getD undef) (by rw [hlen]; exact Nat.le_refl _)
    ⟨(by
     show E.w.heap.size < w'.heap.size
     exact (Array.getElem?_eq_some_iff.1 hh).1), fun h => by have := hg.old _ h; have := hg.below.size; omega, fun i q hq hcp e => by have := (hg.lt_b' hq hcp).2; omega⟩
    (fun i hi => by
     have := (hm i hi).1
     exact this) (fun i j hi hj => by
     rw [hlen] at hi
     obtain ⟨y, y1, y2, _⟩ := hcell i j hi hj
     refine ⟨?_, by rw [y1]; exact y2⟩
     simp only [World.cell?, hh, Option.isSome_none, Bool.false_eq_true, if_false, Nat.zero_add, y1, Option.getD_some]) (fun i hi j hj => by
     have hi' : i < N := by rw [← hlen]; exact hi
     have hj' : j < ti.sz := by rw [← (hm i hi).1]; exact hj
     obtain ⟨y, y1, _, y3⟩ := hcell i j hi' hj'
     simp only [List.getElem_replicate] at hj ⊢
     rw [y1]
     exact (y3 hj).later k2)
   rw [hlen] at hres
   exact hres
def opZ (pf : Value → Mem → Prop) (P : Program) (tab : Tab) (s : ASt) (K : AV → Mem → Prop) : Op → Prop
 | .buildSlice T n parts => tiK tab T fun tt => slK tt.k fun e => tiK tab e fun ti =>
  n = parts.toList.length ∧ (parts.toList.map fun p => p.1) = List.range' 0 n ∧ litK ti s.m (parts.toList.map fun p => (p.1, ev s.sl p.2)) K
 | .makeSlice T l c => tiK tab T fun tt => slK tt.k fun e => tiK tab e fun ti => mkZK ti s.m (ev s.sl l) (ev s.sl c) K
 | op => opX pf P tab s K op
theorem opZ_ev {P : Program} {tab : Tab} {sl sl' : Slots} {M : Mem} {N N' : Nat} {K : AV → Mem → Prop} {op : Op} (h : ∀ x ∈ op.operands, ev sl x = ev sl' x) :
 opZ pf P tab ⟨sl, M, N⟩ K op = opZ pf P tab ⟨sl', M, N'⟩ K op := by
 cases op
 case buildSlice T n ps =>
  have hm : (ps.toList.map fun p => (p.1, ev sl p.2)) = ps.toList.map fun p => (p.1, ev sl' p.2) :=
   List.map_congr_left fun p hp => by rw [h p.2 (by simp only [Op.operands, List.mem_toArray]; exact List.mem_map.2 ⟨p, hp, rfl⟩)]
  simp only [opZ, hm]
 case makeSlice T l c =>
  simp only [opZ, h l (by simp [Op.operands]), h c (by simp [Op.operands])]
 all_goals exact opX_ev (pf := pf) (P := P) (tab := tab) (M := M) (N := N) (N' := N') (K := K) h
theorem opZ_upon {P : Program} {tab : Tab} (hT : TabOk P tab) {w0 : World} {D : List Deferred} {E : Env} {s : ASt} {a : Act} {o : Oper} {K : AV → Mem → Prop} {next : Act → World → Prop} {Q : Exit → Act → World → Prop}
 (h : St w0 E D s a) (hop : opZ pf P tab s K o.op) (hn : ∀ v E' M' x', Good w0 E' M' → Later E E' → Rep E' x' v → K x' M' → next (a.put o.dst v) E'.w) (hP : ∀ x w', PanOut pf w0 E x w' → Q (.panic [{ v := x, recovered := false }]) a w') : o.wp P a E.w next Q := by
 obtain ⟨dst, op, type, pos, after, guard⟩ := o
 cases op
 case buildSlice T n parts =>
  obtain ⟨tt, h1, e, h2, ti, h3, h4, h5, h6⟩ := hop
  have hk := (hT _ _ h1).k
  rw [h2] at hk
  obtain ⟨v, E', M', x', k1, k2, k3, k4, k5⟩ := lit_out h.g hk (hT _ _ h3) (vs := parts.map fun (i, x) => (i, a.eval x)) (by simpa using repP_ev h.r parts.toList) (by simpa using h4) (by rw [List.map_map]; rw [h4] at h5; simp only [Function.comp_def, List.length_map]; exact h5) h6
  unfold Oper.wp
  have hrun : (execOp a.eval ⟨dst, .buildSlice T n parts, type, pos, after, guard⟩).run P E.w = .ok (.value v) E'.w := by
   simp only [execOp, Sem.run_bind, k1, Result.andThen, Sem.run_pure]
  rw [hrun]
  exact hn v E' M' x' k2 k3 k4 k5
 case makeSlice T l c =>
  obtain ⟨tt, h1, e, h2, ti, h3, h6⟩ := hop
  have hk := (hT _ _ h1).k
  rw [h2] at hk
  obtain ⟨v, E', M', x', k1, k2, k3, k4, k5⟩ := mkZ_out h.g hk (hT _ _ h3) (rep_ev h.r l) (rep_ev h.r c) h6
  unfold Oper.wp
  have hrun : (execOp a.eval ⟨dst, .makeSlice T l c, type, pos, after, guard⟩).run P E.w = .ok (.value v) E'.w := by
   simp only [execOp, Sem.run_bind, k1, Result.andThen, Sem.run_pure]
  rw [hrun]
  exact hn v E' M' x' k2 k3 k4 k5
 all_goals exact opX_upon hT h hop hn hP
def Gd (ops : Array Oper) (N : Nat) (sl : Slots) : Option (Nat × Bool) → Bool → Prop
 | none, b => b = true
 | some (j, w), b => ∃ d c, ((ops[j]?).bind (·.dst)) = some d ∧ d < N ∧ gv (Slots.get sl d) w = some c ∧ b = c
structure StepOk (pf : Value → Mem → Prop) (P : Program) (tab : Tab) (ops : Array Oper) (N : Nat) (c : Nat) (o : Oper) (sl : Slots) (M : Mem) (r : AV) (M' : Mem) : Prop where
 dst : ∀ d, o.dst = some d → d < N
 go : ∃ b, Gd ops N sl o.guard b ∧ (b = true → c = 1 → opX pf P tab ⟨sl, M, N⟩ (fun a M2 => a = r ∧ M2 = M') o.op) ∧
  (b = true → c = 2 → M' = M ∧ opX pf P tab ⟨sl, M, N⟩ (fun a M2 => a = r ∧ M2 = M) o.op) ∧
  (b = true → c ≠ 1 → c ≠ 2 → M' = M ∧ ∀ M0, opZ pf P tab ⟨sl, M0, N⟩ (fun a M2 => a = r ∧ M2 = M0) o.op) ∧ (b = false → r = .t [] ∧ M' = M)
def TraceL (pf : Value → Mem → Prop) (P : Program) (tab : Tab) (ops : Array Oper) (N : Nat) (l : List Oper) (hv : List Nat) (sl : Slots) (M : Mem) (K : ASt → Prop) : Prop :=
 ∃ (slA : Nat → Slots) (mA : Nat → Mem) (rA : Nat → AV), slA 0 = sl ∧ mA 0 = M ∧
  (∀ i (h : i < l.length), StepOk pf P tab ops N (hv.getD i 0) l[i] (slA i) (mA i) (rA i) (mA (i + 1)) ∧ slA (i + 1) = putO (slA i) l[i].dst (rA i)) ∧ K ⟨slA l.length, mA l.length, N⟩
theorem TraceL.cons {P : Program} {tab : Tab} {ops : Array Oper} {N : Nat} {o : Oper} {l : List Oper} {h : Nat} {hv : List Nat} {sl : Slots} {M M' : Mem} {r : AV} {K : ASt → Prop}
 (h1 : StepOk pf P tab ops N h o sl M r M') (h2 : TraceL pf P tab ops N l hv (putO sl o.dst r) M' K) : TraceL pf P tab ops N (o :: l) (h :: hv) sl M K := by
 obtain ⟨slA, mA, rA, e1, e2, e3, e4⟩ := h2
 refine ⟨fun i => i.casesOn sl slA, fun i => i.casesOn M mA, fun i => i.casesOn r rA, rfl, rfl, fun i hi => ?_, e4⟩
 cases i with
 | zero =>
  simp only [List.getD_cons_zero, List.getElem_cons_zero]
  exact ⟨by rw [e2]; exact h1, e1⟩
 | succ i => exact e3 i (by simpa using hi)
def ancOk (ops : Array Oper) (anc : List (List Nat)) : Bool :=
 (List.range ops.size).all fun j => match ops[j]? with
  | none => false
  | some o => o.after.all (fun e => !Region.binds .any e || Nat.blt e.on j) && (anc.getD j []).all fun a => o.after.any fun e => Region.binds .any e && (e.on == a || (anc.getD e.on []).contains a)
def mclash (c d : Nat) : Bool := (c == 1 && (d == 1 || d == 2)) || (d == 1 && (c == 1 || c == 2))
def confOk (ops : Array Oper) (hv : List Nat) (anc : List (List Nat)) : Bool :=
 (List.range ops.size).all fun j => (List.range j).all fun i => (anc.getD j []).contains i || match ops[i]?, ops[j]? with
  | some x, some y => x.apart ops y && !(mclash (hv.getD i 0) (hv.getD j 0))
  | _, _ => false
def drawOk (ops : Array Oper) (hv : List Nat) (anc : List (List Nat)) : Bool := ancOk ops anc && confOk ops hv anc
theorem filter_lt {α : Type} {p q : α → Bool} : ∀ (l : List α), (∀ z ∈ l, q z = true → p z = true) → ∀ i ∈ l, p i = true → q i = false → (l.filter q).length < (l.filter p).length
 | z :: l, h, i, hi, hp, hq => by
  have hle : ∀ l : List α, (∀ z ∈ l, q z = true → p z = true) → (l.filter q).length ≤ (l.filter p).length := by
   intro l
   induction l with
   | nil => intro _; simp
   | cons z l ih =>
    intro h
    have := ih fun y hy => h y (List.mem_cons_of_mem _ hy)
    cases hqz : q z with
    | true => simp [List.filter_cons, hqz, h z (by simp) hqz]; exact this
    | false => cases hpz : p z <;> simp [List.filter_cons, hqz, hpz] <;> omega
  have h' : ∀ y ∈ l, q y = true → p y = true := fun y hy => h y (List.mem_cons_of_mem _ hy)
  rcases List.mem_cons.1 hi with e | e
  · subst e
    have := hle l h'
    simp [List.filter_cons, hp, hq]; omega
  · have := filter_lt l h' i e hp hq
    cases hqz : q z with
    | true => simp [List.filter_cons, hqz, h z (by simp) hqz]; exact this
    | false => cases hpz : p z <;> simp [List.filter_cons, hqz, hpz] <;> omega
section
variable {P : Program} {tab : Tab} {ops : Array Oper} {hv : List Nat} {anc : List (List Nat)}
theorem anc_edges (h : ancOk ops anc = true) {j : Nat} {o : Oper} (ho : ops[j]? = some o) : (∀ e ∈ o.after, Region.binds .any e = true → e.on < j) ∧
 ∀ a ∈ anc.getD j [], ∃ e ∈ o.after, Region.binds .any e = true ∧ (e.on = a ∨ a ∈ anc.getD e.on []) := by
 have hj : j < ops.size := (Array.getElem?_eq_some_iff.1 ho).1
 have := List.all_eq_true.1 h j (List.mem_range.2 hj)
 simp only [ho, Bool.and_eq_true] at this
 refine ⟨fun e he hb => ?_, fun a ha => ?_⟩
 · have := Array.all_eq_true_iff_forall_mem.1 this.1 e he
   simp only [hb, Bool.not_true, Bool.false_or, Nat.blt_eq] at this
   exact this
 · have := List.all_eq_true.1 this.2 a ha
   obtain ⟨e, he, hb⟩ := Array.any_eq_true'.1 this
   simp only [Bool.and_eq_true, Bool.or_eq_true, beq_iff_eq, List.contains_iff_mem] at hb
   exact ⟨e, he, hb.1, hb.2⟩
def Closed (ops : Array Oper) (S : Nat → Bool) : Prop := ∀ j o, ops[j]? = some o → S j = true → ∀ e ∈ o.after, Region.binds .any e = true → S e.on = true
theorem anc_closed (h : ancOk ops anc = true) {S : Nat → Bool} (hc : Closed ops S) : ∀ (j : Nat) {o : Oper}, ops[j]? = some o → (∀ e ∈ o.after, Region.binds .any e = true → S e.on = true) → ∀ a ∈ anc.getD j [], S a = true := by
 intro j
 induction j using Nat.strongRecOn with
 | _ j ih =>
  intro o ho he a ha
  obtain ⟨e, h1, h2, h3⟩ := (anc_edges h ho).2 a ha
  have hlt := (anc_edges h ho).1 e h1 h2
  rcases h3 with h3 | h3
  · rw [← h3]; exact he e h1 h2
  · have hj : j < ops.size := (Array.getElem?_eq_some_iff.1 ho).1
    have ho' : ops[e.on]? = some ops[e.on] := Array.getElem?_eq_getElem (by omega)
    exact ih e.on hlt ho' (hc e.on _ ho' (he e h1 h2)) a h3
theorem conf_spec (h : confOk ops hv anc = true) {i j : Nat} {x y : Oper} (hij : i < j) (hx : ops[i]? = some x) (hy : ops[j]? = some y) : i ∈ anc.getD j [] ∨ (x.apart ops y = true ∧ mclash (hv.getD i 0) (hv.getD j 0) = false) := by
 have hj : j < ops.size := (Array.getElem?_eq_some_iff.1 hy).1
 have := List.all_eq_true.1 (List.all_eq_true.1 h j (List.mem_range.2 hj)) i (List.mem_range.2 hij)
 simp only [hx, hy, Bool.or_eq_true, Bool.and_eq_true, List.contains_iff_mem, Bool.not_eq_true'] at this
 rcases this with h | ⟨h1, h2⟩
 · exact .inl h
 · exact .inr ⟨h1, h2⟩
theorem draw_sound (hm : P.follows .mixedOrders = true) (hT : TabOk P tab) (hd : drawOk ops hv anc = true) {id : Nat} {KE : Exit → ASt → Prop} {s : ASt}
 (h : TraceL pf P tab ops s.N ops.toList hv s.sl s.m (KE .normal)) : ACodeG pf P (.region id ops true) KE s := by
 intro hAcc ro w0 E0 D a0 hs
 obtain ⟨slA, mA, rA, e1, e2, e3, e4⟩ := h
 simp only [drawOk, Bool.and_eq_true] at hd
 obtain ⟨ha, hcf⟩ := hd
 have hlen : ops.toList.length = ops.size := by simp
 have hstep : ∀ i o, ops[i]? = some o → StepOk pf P tab ops s.N (hv.getD i 0) o (slA i) (mA i) (rA i) (mA (i + 1)) ∧ slA (i + 1) = putO (slA i) o.dst (rA i) := fun i o ho => by
  obtain ⟨hi, rfl⟩ := Array.getElem?_eq_some_iff.1 ho
  have := e3 i (by rw [hlen]; exact hi)
  simpa using this
 -- what is written, by temporaries; what the memory is
 let dstA : Nat → Option Tmp := fun i => (ops[i]?).bind (·.dst)
 let wl : Nat → List (Bool × AV) := fun t => (List.range ops.size).map fun i => (dstA i == some t, rA i)
 let ml : List (Bool × Mem) := (List.range ops.size).map fun i => (hv.getD i 0 == 1, mA (i + 1))
 let val : (Nat → Bool) → Nat → AV := fun S t => lastW (Slots.get s.sl t) (wl t) 0 S
 let mem : (Nat → Bool) → Mem := fun S => lastW s.m ml 0 S
 have wlen : ∀ t, (wl t).length = ops.size := fun t => by simp [wl]
 have mlen : ml.length = ops.size := by simp [ml]
 have wget : ∀ t j (hj : j < (wl t).length), (wl t)[j] = (dstA j == some t, rA j) := fun t j hj => by simp [wl]
 have mget : ∀ j (hj : j < ml.length), ml[j] = (hv.getD j 0 == 1, mA (j + 1)) := fun j hj => by simp [ml]
 have vcong : ∀ S S' t, (∀ j, j < ops.size → dstA j = some t → S j = S' j) → val S t = val S' t := fun S S' t hh =>
  lastW_congr _ _ 0 S S' fun j hj hf => by
   rw [wget] at hf
   rw [Nat.zero_add]
   exact hh j (by rw [← wlen t]; exact hj) (by simpa using hf)
 have mcong : ∀ S S', (∀ j, j < ops.size → hv.getD j 0 = 1 → S j = S' j) → mem S = mem S' := fun S S' hh =>
  lastW_congr _ _ 0 S S' fun j hj hf => by
   rw [mget] at hf
   rw [Nat.zero_add]
   exact hh j (by rw [← mlen]; exact hj) (by simpa using hf)
 have vis : ∀ S t i, i < ops.size → dstA i = some t → S i = true → (∀ j, j < ops.size → i < j → dstA j = some t → S j = false) → val S t = rA i := fun S t i hi hdi hS hh => by
  have := lastW_is (wl t) (Slots.get s.sl t) 0 S i (by rw [wlen]; exact hi) (by rw [wget]; simpa using hdi) (by rw [Nat.zero_add]; exact hS) fun j hj hij hf => by
   rw [wget] at hf
   rw [Nat.zero_add]
   exact hh j (by rw [← wlen t]; exact hj) hij (by simpa using hf)
  rw [wget] at this
  exact this
 have mis : ∀ S i, i < ops.size → hv.getD i 0 = 1 → S i = true → (∀ j, j < ops.size → i < j → hv.getD j 0 = 1 → S j = false) → mem S = mA (i + 1) := fun S i hi hdi hS hh => by
  have := lastW_is ml s.m 0 S i (by rw [mlen]; exact hi) (by rw [mget]; simpa using hdi) (by rw [Nat.zero_add]; exact hS) fun j hj hij hf => by
   rw [mget] at hf
   rw [Nat.zero_add]
   exact hh j (by rw [← mlen]; exact hj) hij (by simpa using hf)
  rw [mget] at this
  exact this
 have canon : ∀ i, i ≤ ops.size → (∀ t, Slots.get (slA i) t = val (fun j => decide (j < i)) t) ∧ mA i = mem (fun j => decide (j < i)) := by
  intro i
  induction i with
  | zero =>
   intro _
   refine ⟨fun t => ?_, ?_⟩
   · rw [e1]; exact (lastW_none _ _ 0 _ fun j _ _ => by simp).symm
   · rw [e2]; exact (lastW_none _ _ 0 _ fun j _ _ => by simp).symm
  | succ i ih =>
   intro hi
   obtain ⟨ih1, ih2⟩ := ih (by omega)
   have ho : ops[i]? = some ops[i] := Array.getElem?_eq_getElem (by omega)
   have hda : dstA i = ops[i].dst := by simp [dstA, ho]
   obtain ⟨k1, k2⟩ := hstep i _ ho
   refine ⟨fun t => ?_, ?_⟩
   · rw [k2, get_putO]
     by_cases hdt : ops[i].dst = some t
     · rw [if_pos hdt]
       exact (vis _ t i (by omega) (by rw [hda]; exact hdt) (by simp) fun j hj hij _ => by simp; omega).symm
     · rw [if_neg hdt, ih1]
       refine vcong _ _ t fun j hj hdj => ?_
       have : j ≠ i := fun e => hdt (by rw [← hda, ← e]; exact hdj)
       exact decide_eq_decide.2 (by omega)
   · by_cases hvi : hv.getD i 0 = 1
     · exact (mis _ i (by omega) hvi (by simp) fun j hj hij _ => by simp; omega).symm
     · have hm1 : mA (i + 1) = mA i := by
        obtain ⟨b, _, _, g2, g3, g4⟩ := k1.go
        cases b with
        | true =>
         by_cases h2 : hv.getD i 0 = 2
         · exact (g2 rfl h2).1
         · exact (g3 rfl hvi h2).1
        | false => exact (g4 rfl).2
       rw [hm1, ih2]
       refine mcong _ _ fun j hj hvj => ?_
       have : j ≠ i := fun e => hvi (by rw [← e]; exact hvj)
       exact decide_eq_decide.2 (by omega)
 -- the orders
 let Q : Exit → Act → World → Prop := fun ex a' w' => ∃ E' s', E'.w = w' ∧ St w0 E' D s' a' ∧ Later E0 E' ∧ KE ex s'
 have hPan : ∀ {E : Env} {a : Act}, a.tmps.size = s.N → a.defers = D → Later E0 E → ∀ x w', PanOut pf w0 E x w' → Q (.panic [{ v := x, recovered := false }]) a w' := fun hn hd hl x w' hp => hp.code2 hn hd hl hAcc
 let Inv : (Nat → Bool) → Act → World → Prop := fun S a w => ∃ E, E.w = w ∧ Good w0 E (mem S) ∧ (∀ t, Rep E (val S t) (a.tmps.getD t undef)) ∧ a.tmps.size = s.N ∧ a.defers = D ∧ Later E0 E
 have hready : ∀ (listed : Array Bool), listed.size = ops.size → Region.ready .any ops listed = [] → ∀ i, i < ops.size → listed.getD i false = true := by
  intro listed hsz hr i
  induction i using Nat.strongRecOn with
  | _ i ih =>
   intro hi
   cases hl : listed.getD i false with
   | true => rfl
   | false =>
    have ho : ops[i]? = some ops[i] := Array.getElem?_eq_getElem hi
    have hmem : i ∈ Region.ready .any ops listed := mem_ready.2 ⟨by
     have : listed.getD i true = listed.getD i false := by simp [hsz, hi]
     rw [this]; exact hl, _, ho, fun e he hb => ih e.on ((anc_edges ha ho).1 e he hb) (by have := (anc_edges ha ho).1 e he hb; omega)⟩
    rw [hr] at hmem
    cases hmem
 have fin : ∀ (listed : Array Bool) (a : Act) (w : World), (∀ i, i < ops.size → listed.getD i false = true) → Inv (fun j => listed.getD j false) a w → Q .normal a w := by
  rintro listed a w hall ⟨E, rfl, g1, g2, g3, g4, g5⟩
  obtain ⟨c1, c2⟩ := canon ops.size (Nat.le_refl _)
  rw [hlen] at e4
  refine ⟨E, ⟨slA ops.size, mA ops.size, s.N⟩, rfl, ⟨?_, fun t => ?_, g3, g4⟩, g5, e4⟩
  · rw [c2, mcong _ (fun j => listed.getD j false) fun j hj _ => by rw [hall j hj]; simp [hj]]
    exact g1
  · rw [c1, vcong _ (fun j => listed.getD j false) t fun j hj _ => by rw [hall j hj]; simp [hj]]
    exact g2 t
 have step : ∀ (listed : Array Bool) (a : Act) (w : World) (i : Nat) (K : Act → World → Prop), listed.size = ops.size → Closed ops (fun j => listed.getD j false) → Inv (fun j => listed.getD j false) a w →
  i ∈ Region.ready .any ops listed → (∀ a' w', Inv (fun j => (listed.setIfInBounds i true).getD j false) a' w' → K a' w') → wpOpIn (FF ro) 0 P ops Q i K a w := by
  rintro listed a w i K hsz hcl ⟨E, rfl, g1, g2, g3, g4, g5⟩ hi hK
  obtain ⟨hun0, o, ho, hall⟩ := mem_ready.1 hi
  have hin : i < ops.size := (Array.getElem?_eq_some_iff.1 ho).1
  have hun : listed.getD i false = false := by
   have : listed.getD i true = listed.getD i false := by simp [hsz, hin]
   rw [← this]; exact hun0
  have hda : dstA i = o.dst := by simp [dstA, ho]
  have hanc := anc_closed ha hcl i ho hall
  have hS' : ∀ j, (listed.setIfInBounds i true).getD j false = if j = i then true else listed.getD j false := fun j => by
   by_cases e : j = i
   · subst e; simp [hsz, hin]
   · rw [if_neg e, getD_set_ne false (Ne.symm e)]
  -- nobody behind whom it matters to is done yet
  have hlate : ∀ j y, i < j → ops[j]? = some y → i ∈ anc.getD j [] → listed.getD j false = false := fun j y hij hy hja => by
   cases hl : listed.getD j false with
   | false => rfl
   | true =>
    have := anc_closed ha hcl j hy (hcl j y hy hl) i hja
    rw [hun] at this
    cases this
  have hread : ∀ t, t ∈ o.looksAt ops → val (fun j => listed.getD j false) t = Slots.get (slA i) t := fun t ht => by
   rw [(canon i (by omega)).1]
   refine vcong _ _ t fun j hj hdj => ?_
   have hy : ops[j]? = some ops[j] := Array.getElem?_eq_getElem hj
   have hdj' : ops[j].dst = some t := by simpa [dstA, hy] using hdj
   rcases Nat.lt_trichotomy j i with h1 | h1 | h1
   · rcases conf_spec hcf h1 hy ho with h2 | ⟨h2, _⟩
     · rw [hanc j h2]; simp [h1]
     · exact absurd ht ((Oper.apart_spec h2).1 t hdj')
   · subst h1; rw [hun]; simp
   · rcases conf_spec hcf h1 ho hy with h2 | ⟨h2, _⟩
     · rw [hlate j _ h1 hy h2]; simp; omega
     · exact absurd ht ((Oper.apart_spec h2).2.2 t hdj')
  have hmemr : (hv.getD i 0 = 1 ∨ hv.getD i 0 = 2) → mem (fun j => listed.getD j false) = mA i := fun hvi => by
   rw [(canon i (by omega)).2]
   refine mcong _ _ fun j hj hvj => ?_
   have hy : ops[j]? = some ops[j] := Array.getElem?_eq_getElem hj
   rcases Nat.lt_trichotomy j i with h1 | h1 | h1
   · rcases conf_spec hcf h1 hy ho with h2 | ⟨_, h2⟩
     · rw [hanc j h2]; simp [h1]
     · rcases hvi with hvi | hvi <;> rw [hvj, hvi] at h2 <;> exact absurd h2 (by decide)
   · subst h1; rw [hun]; simp
   · rcases conf_spec hcf h1 ho hy with h2 | ⟨_, h2⟩
     · rw [hlate j _ h1 hy h2]; simp; omega
     · rcases hvi with hvi | hvi <;> rw [hvj, hvi] at h2 <;> exact absurd h2 (by decide)
  have hval' : ∀ t, val (fun j => (listed.setIfInBounds i true).getD j false) t = if o.dst = some t then rA i else val (fun j => listed.getD j false) t := fun t => by
   by_cases hdt : o.dst = some t
   · rw [if_pos hdt]
     refine vis _ t i hin (by rw [hda]; exact hdt) (by rw [hS', if_pos rfl]) fun j hj hij hdj => ?_
     rw [hS', if_neg (by omega)]
     have hy : ops[j]? = some ops[j] := Array.getElem?_eq_getElem hj
     have hdj' : ops[j].dst = some t := by simpa [dstA, hy] using hdj
     rcases conf_spec hcf hij ho hy with h2 | ⟨h2, _⟩
     · exact hlate j _ hij hy h2
     · exact absurd hdj' ((Oper.apart_spec h2).2.1 t hdt)
   · rw [if_neg hdt]
     refine vcong _ _ t fun j hj hdj => ?_
     have : j ≠ i := fun e => hdt (by rw [← hda, ← e]; exact hdj)
     rw [hS', if_neg this]
  have hmem' : mem (fun j => (listed.setIfInBounds i true).getD j false) = if hv.getD i 0 = 1 then mA (i + 1) else mem (fun j => listed.getD j false) := by
   by_cases hvi : hv.getD i 0 = 1
   · rw [if_pos hvi]
     refine mis _ i hin hvi (by rw [hS', if_pos rfl]) fun j hj hij hvj => ?_
     rw [hS', if_neg (by omega)]
     have hy : ops[j]? = some ops[j] := Array.getElem?_eq_getElem hj
     rcases conf_spec hcf hij ho hy with h2 | ⟨_, h2⟩
     · exact hlate j _ hij hy h2
     · rw [hvj, hvi] at h2; exact absurd h2 (by decide)
   · rw [if_neg hvi]
     refine mcong _ _ fun j hj hvj => ?_
     have : j ≠ i := fun e => hvi (by rw [← e]; exact hvj)
     rw [hS', if_neg this]
  obtain ⟨⟨hdst, b, hgd, hheavy, hlook, hfree, hskip⟩, _⟩ := hstep i o ho
  have hnext : ∀ v E' M', Good w0 E' M' → Later E E' → Rep E' (rA i) v → M' = mem (fun j => (listed.setIfInBounds i true).getD j false) → K (a.put o.dst v) E'.w := fun v E' M' k1 k2 k3 k4 => by
   refine hK _ _ ⟨E', rfl, k4 ▸ k1, fun t => ?_, ?_, ?_, g5.trans k2⟩
   · rw [hval']
     cases hdo : o.dst with
     | none => simp only [Act.put, reduceCtorEq, if_false]; exact (g2 t).later k2
     | some d =>
      have hds : d < a.tmps.size := by rw [g3]; exact hdst d hdo
      by_cases hdt : d = t
      · subst hdt
        simp only [Act.put, if_true]
        have : (a.tmps.setIfInBounds d v).getD d undef = v := by simp [hds]
        rw [this]; exact k3
      · rw [if_neg (by simpa using hdt)]
        have : ((a.put (some d) v).tmps).getD t undef = a.tmps.getD t undef := by simp [Act.put, Array.getElem?_setIfInBounds_ne hdt]
        rw [this]; exact (g2 t).later k2
   · cases o.dst <;> simp [Act.put, g3]
   · cases o.dst <;> exact g4
  have hw : Region.wanted o (yielded ops a.tmps) = b := by
   unfold Region.wanted
   cases hgo : o.guard with
   | none => rw [hgo] at hgd; exact (show b = true from hgd).symm
   | some q =>
    obtain ⟨j, w⟩ := q
    rw [hgo] at hgd
    obtain ⟨d, c, h1, h2, h3, h4⟩ := hgd
    have hdl : d ∈ o.looksAt ops := List.mem_append_right _ (by simp [hgo, h1])
    have hv := g2 d
    rw [hread d hdl] at hv
    have hds : d < a.tmps.size := by rw [g3]; exact h2
    have : a.tmps.getD d undef = a.tmps[d] := by simp [Array.getD, hds]
    rw [this] at hv
    have hy : (yielded ops a.tmps j == some w) = c := by
     unfold yielded
     rw [h1]
     simp only [Option.bind_some, Array.getElem?_eq_getElem hds]
     have := gv_wanted hv h3
     generalize a.tmps[d] = v at this ⊢
     cases v <;> exact this
    rw [h4]; exact hy
  unfold wpOpIn
  simp only [ho]
  rw [hw]
  cases b with
  | false =>
   obtain ⟨k1, k2⟩ := hskip rfl
   simp only [Bool.false_eq_true, if_false]
   refine ⟨fun _ _ => trivial, ?_⟩
   refine hnext undef E _ g1 (.refl E) (by rw [k1]; exact rep_undef) ?_
   rw [hmem']
   split
   · rename_i hvi; rw [hmemr (.inl hvi), k2]
   · rfl
  | true =>
   simp only [if_true]
   let ts : List Nat := o.op.operands.toList.filterMap fun | .tmp t => some t | _ => none
   have hts : ∀ t, t ∈ ts → t ∈ o.looksAt ops := fun t ht => List.mem_append_left _ ht
   let L := lkL (val (fun j => listed.getD j false)) ts
   have hevs : ∀ z, z ∈ o.op.operands → ev (slA i) z = ev L z := fun z hz => by
    cases z with
    | tmp t =>
     have ht : t ∈ ts := List.mem_filterMap.2 ⟨.tmp t, by simpa using hz, rfl⟩
     show Slots.get (slA i) t = Slots.get L t
     rw [get_lkL, if_pos ht, hread t (hts t ht)]
    | _ => rfl
   have hst : ∀ M, Good w0 E M → St w0 E D ⟨L, M, s.N⟩ a := fun M hM => ⟨hM, fun t => by
    show Rep E (Slots.get L t) _
    rw [get_lkL]
    split
    · exact g2 t
    · exact .x _, g3, g4⟩
   by_cases hvi : hv.getD i 0 = 1
   · have hop := hheavy rfl hvi
     rw [opX_ev (N' := s.N) hevs, ← hmemr (.inl hvi)] at hop
     refine wpIn_of_wp (fun c e => by rw [e] at hop; exact hop) ?_
     exact opX_upon hT (hst _ g1) hop (fun v E' M' x' k1 k2 k3 k4 => hnext v E' M' k1 k2 (k4.1 ▸ k3) (by rw [hmem', if_pos hvi]; exact k4.2)) (hPan g3 g4 g5)
   · by_cases hv2 : hv.getD i 0 = 2
     · have hop := (hlook rfl hv2).2
       rw [opX_ev (N' := s.N) hevs, ← hmemr (.inr hv2)] at hop
       refine wpIn_of_wp (fun c e => by rw [e] at hop; exact hop) ?_
       exact opX_upon hT (hst _ g1) hop (fun v E' M' x' k1 k2 k3 k4 => hnext v E' M' k1 k2 (k4.1 ▸ k3) (by rw [hmem', if_neg hvi]; exact k4.2)) (hPan g3 g4 g5)
     · have hop := (hfree rfl hvi hv2).2 (mem (fun j => listed.getD j false))
       rw [opZ_ev (N' := s.N) hevs] at hop
       refine wpIn_of_wp (fun c e => by rw [e] at hop; exact hop) ?_
       exact opZ_upon hT (hst _ g1) hop (fun v E' M' x' k1 k2 k3 k4 => hnext v E' M' k1 k2 (k4.1 ▸ k3) (by rw [hmem', if_neg hvi]; exact k4.2)) (hPan g3 g4 g5)
 have main : ∀ (fuel : Nat) (listed : Array Bool) (a : Act) (w : World), listed.size = ops.size → Closed ops (fun j => listed.getD j false) → ((List.range ops.size).filter fun j => !listed.getD j false).length ≤ fuel →
  Inv (fun j => listed.getD j false) a w → wpAnyIn (FF ro) 0 P .any ops Q fuel listed a w := by
  intro fuel
  induction fuel with
  | zero =>
   intro listed a w hsz hcl hcnt hinv
   have hnil : (List.range ops.size).filter (fun j => !listed.getD j false) = [] := List.eq_nil_of_length_eq_zero (by omega)
   have hall : ∀ i, i < ops.size → listed.getD i false = true := fun i hi => by
    have := List.filter_eq_nil_iff.1 hnil i (List.mem_range.2 hi)
    simpa using this
   refine ⟨?_, fin listed a w hall hinv⟩
   refine List.eq_nil_iff_forall_not_mem.2 fun i hi => ?_
   obtain ⟨h1, o, ho, _⟩ := mem_ready.1 hi
   have hin : i < ops.size := (Array.getElem?_eq_some_iff.1 ho).1
   have h2 := hall i hin
   have : listed.getD i true = listed.getD i false := by simp [hsz, hin]
   rw [this, h2] at h1
   cases h1
  | succ fuel ih =>
   intro listed a w hsz hcl hcnt hinv
   refine ⟨fun hr => fin listed a w (hready listed hsz hr) hinv, fun i hi => step listed a w i _ hsz hcl hinv hi fun a' w' hinv' => ?_⟩
   obtain ⟨h1, o, ho, hall⟩ := mem_ready.1 hi
   have hin : i < ops.size := (Array.getElem?_eq_some_iff.1 ho).1
   have hun : listed.getD i false = false := by
    have : listed.getD i true = listed.getD i false := by simp [hsz, hin]
    rw [← this]; exact h1
   have hS' : ∀ j, (listed.setIfInBounds i true).getD j false = if j = i then true else listed.getD j false := fun j => by
    by_cases e : j = i
    · subst e; simp [hsz, hin]
    · rw [if_neg e, getD_set_ne false (Ne.symm e)]
   refine ih _ a' w' (by simp [hsz]) (fun j y hy hj e he hb => ?_) ?_ hinv'
   · simp only [hS'] at hj ⊢
     by_cases hji : j = i
     · subst hji
       rw [ho] at hy; cases hy
       split
       · rfl
       · exact hall e he hb
     · rw [if_neg hji] at hj
       split
       · rfl
       · exact hcl j y hy hj e he hb
   · have hlt : ((List.range ops.size).filter fun j => !(listed.setIfInBounds i true).getD j false).length < ((List.range ops.size).filter fun j => !listed.getD j false).length :=
      filter_lt _ (fun j _ hj => by
       simp only [hS'] at hj
       split at hj
       · simp at hj
       · exact hj) i (List.mem_range.2 hin) (by simp only [hun]; rfl) (by simp only [hS']; simp)
     omega
 refine wpIn_region_any hm (main ops.size _ a0 _ (by simp) (fun j y _ hj => ?_) ?_ ?_)
 · by_cases h : j < ops.size <;> simp [h] at hj
 · refine Nat.le_trans (List.length_filter_le _ _) (by simp)
 · obtain ⟨k1, k2⟩ := hs.g.drawn (E0.w.drawn + 1)
   have h0 : ∀ j, (Array.replicate ops.size false).getD j false = false := fun j => by
    by_cases h : j < ops.size <;> simp [h]
   refine ⟨_, rfl, ?_, fun t => ?_, hs.n, hs.d, k2⟩
   · have : mem (fun j => (Array.replicate ops.size false).getD j false) = s.m := lastW_none _ _ 0 _ fun j _ _ => h0 _
     rw [this]; exact k1
   · have : val (fun j => (Array.replicate ops.size false).getD j false) t = Slots.get s.sl t := lastW_none _ _ 0 _ fun j _ _ => h0 _
     rw [this]; exact (hs.r t).later k2
end
end Go.Ab
namespace Go.Ab
open Go Go.RowKit
variable {pf : Value → Mem → Prop}
def mem0 : Mem := ⟨[], 0⟩
def NoNil : AV → Prop
 | .c (.slice _ _ _) => False
 | _ => True
def freeOk (sl : Slots) : Op → Prop
 | .move _ => True
 | .assign _ => True
 | .pick _ _ _ => True
 | .unOp _ _ _ => True
 | .extract _ _ => True
 | .convert _ _ _ => True
 | .slice _ _ _ _ _ => True
 | .field _ _ _ => True
 | .load _ _ => True
 | .indexAddr _ _ _ => True
 | .fieldAddr _ _ _ => True
 | .nilCheck _ => True
 | .binOp _ _ _ y _ => NoNil (ev sl y)
 | .call c => match c.callee with
  | .builtin .len => True
  | .builtin .max => True
  | .builtin .min => True
  | _ => False
 | _ => False
theorem blk0 {id n : Nat} {K : Blk → Prop} (h : blkK mem0 id n K) : False := by
 obtain ⟨b, h, _⟩ := h
 cases h
section
variable {K : AV → Mem → Prop} {K1 : AV → Prop}
theorem pick_pin {a b c : AV} (h : pickK c a b K1) : ∃ r, K1 r ∧ pickK c a b (· = r) := by
 unfold pickK at h
 split at h
 · split at h
   · exact ⟨_, h, by simp [pickK, *]⟩
   · exact ⟨_, h, by simp [pickK, *]⟩
 · exact h.elim
theorem un_pin {op : UnOp} {a : AV} (h : unK op a K1) : ∃ r, K1 r ∧ unK op a (· = r) := by
 unfold unK at h
 split at h <;> (try split at h) <;> first | exact ⟨_, h, rfl⟩ | exact h.elim
theorem extract_pin {i : Nat} {a : AV} (h : extractK i a K1) : ∃ r, K1 r ∧ extractK i a (· = r) := by
 unfold extractK at h
 split at h
 · obtain ⟨hi, h⟩ := h; exact ⟨_, h, hi, rfl⟩
 · exact h.elim
theorem len_pin {k : TK} {a : AV} (h : lenK k a K1) : ∃ r, K1 r ∧ lenK k a (· = r) := by
 unfold lenK at h
 split at h <;> first | exact ⟨_, h, rfl⟩ | exact h.elim
theorem max_pin {a b : AV} (h : maxK a b K1) : ∃ r, K1 r ∧ maxK a b (· = r) := by
 unfold maxK at h
 split at h <;> first | exact ⟨_, h, rfl⟩ | exact h.elim
theorem min_pin {a b : AV} (h : minK a b K1) : ∃ r, K1 r ∧ minK a b (· = r) := by
 unfold minK at h
 split at h <;> first | exact ⟨_, h, rfl⟩ | exact h.elim
theorem nilCheck_pin {a : AV} (h : nilCheckK a K1) : ∃ r, K1 r ∧ nilCheckK a (· = r) := by
 unfold nilCheckK at h
 split at h <;> first | exact ⟨_, h, rfl⟩ | exact h.elim
theorem fieldV_pin {fs : List (Nat × TypeId)} {ti : TI} {f : Nat} {a : AV} (h : fieldVK fs ti f a K1) : ∃ r, K1 r ∧ fieldVK fs ti f a (· = r) := by
 unfold fieldVK at h
 split at h
 · obtain ⟨h1, h2, h3⟩ := h; exact ⟨_, h3, h1, h2, rfl⟩
 · exact h.elim
theorem bin_pin {P : Program} {op : BinOp} {t : TypeId} {k : TK} {a b : AV} (hn : NoNil b) (h : binK P op t k mem0 a b K) : ∃ r, K r mem0 ∧ ∀ M0, binK P op t k M0 a b fun x M2 => x = r ∧ M2 = M0 := by
 unfold binK at h
 split at h
 · exact ⟨_, h.2, fun _ => ⟨h.1, rfl, rfl⟩⟩
 · cases op <;> simp only [strBinK] at h <;> first | exact h.elim | exact ⟨_, h, fun _ => ⟨rfl, rfl⟩⟩ | exact ⟨_, h.2, fun _ => ⟨h.1, rfl, rfl⟩⟩
 · cases op <;> cases k <;> simp only [boolBinK] at h <;> first | exact h.elim | exact ⟨_, h, fun _ => ⟨rfl, rfl⟩⟩
 · exact hn.elim
 · exact hn.elim
 · exact hn.elim
 · cases op <;> simp only [aggBinK] at h <;> first | exact h.elim | (obtain ⟨b, h1, h2⟩ := h; exact ⟨_, h2, fun _ => ⟨b, h1, rfl, rfl⟩⟩)
 · exact h.elim
theorem src_pin {sz : Nat} {a : AV} {K2 : List AV → Prop} (h : srcK sz mem0 a K2) : ∃ r, K2 r ∧ ∀ M0, srcK sz M0 a (· = r) := by
 unfold srcK at h
 split at h
 · exact ⟨_, h.2, fun _ => ⟨h.1, rfl⟩⟩
 · exact (blk0 h).elim
 · exact ⟨_, h, fun _ => rfl⟩
 · exact ⟨_, h.2, fun _ => ⟨h.1, rfl⟩⟩
 · exact h.elim
theorem srcK_mono {sz : Nat} {M : Mem} {a : AV} {K1 K2 : List AV → Prop} (h : srcK sz M a K1) (hk : ∀ l, K1 l → K2 l) : srcK sz M a K2 := by
 unfold srcK at h ⊢
 split at h
 · exact ⟨h.1, hk _ h.2⟩
 · obtain ⟨b, h1, h2, h3, h4⟩ := h; exact ⟨b, h1, h2, h3, hk _ h4⟩
 · exact hk _ h
 · exact ⟨h.1, hk _ h.2⟩
 · exact h.elim
theorem conv_pin {ks kd : TK} {tab : Tab} {a : AV} (h : convK ks kd tab mem0 a K) : ∃ r, K r mem0 ∧ ∀ M0, convK ks kd tab M0 a fun z M2 => z = r ∧ M2 = M0 := by
 unfold convK at h
 split at h
 · cases kd <;> simp only [intConvK] at h <;> first | exact h.elim | exact ⟨_, h, fun _ => ⟨rfl, rfl⟩⟩
 · cases ks <;> cases kd <;> simp only [strConvK] at h <;> first | exact h.elim | exact ⟨_, h, fun _ => ⟨rfl, rfl⟩⟩ | exact ⟨_, h.2, fun _ => ⟨h.1, rfl, rfl⟩⟩
 · rename_i hn1 hn2
   have hk : ∀ M (K : AV → Mem → Prop), convK ks kd tab M a K = bytesStrK tab M a K ks kd := fun M K => by
    unfold convK
    split
    · exact absurd rfl (hn1 _ _)
    · exact absurd rfl (hn2 _)
    · rfl
   cases ks <;> cases kd <;> simp only [bytesStrK] at h <;> try exact h.elim
   obtain ⟨h1, h2⟩ := h
   obtain ⟨l, ⟨g1, g2⟩, g3⟩ := src_pin h2
   refine ⟨_, g2, fun M0 => ?_⟩
   rw [hk]
   exact ⟨h1, srcK_mono (g3 M0) fun l' e => by subst e; exact ⟨g1, rfl, rfl⟩⟩
theorem cv_pin {same : Bool} {ks kd : TK} {tab : Tab} {a : AV} (h : cvK same ks kd tab mem0 a K) : ∃ r, K r mem0 ∧ ∀ M0, cvK same ks kd tab M0 a fun z M2 => z = r ∧ M2 = M0 := by
 unfold cvK at h
 cases hl : litC same ks a with
 | false =>
  rw [hl] at h
  obtain ⟨r, h1, h2⟩ := conv_pin h
  exact ⟨r, h1, fun M0 => by unfold cvK; rw [hl]; exact h2 M0⟩
 | true =>
  rw [hl] at h
  simp only [cond_true] at h
  unfold constK at h
  split at h
  · exact (blk0 h.2.2.2).elim
  · exact h.elim
theorem bnds_pin {n : Nat} {lo hi mx : Option AV} {K2 : Nat → Nat → Prop} (h : bnds n lo hi mx K2) : ∃ l r, K2 l r ∧ bnds n lo hi mx fun l' r' => l' = l ∧ r' = r := by
 have hb : ∀ d o (K : Int → Prop), bnd d o K → ∃ i, K i ∧ ∀ K' : Int → Prop, K' i → bnd d o K' := fun d o K h => by
  unfold bnd at h
  split at h
  · exact ⟨_, h, fun _ h => h⟩
  · exact ⟨_, h, fun _ h => h⟩
  · exact h.elim
 obtain ⟨l, h1, g1⟩ := hb _ _ _ h
 obtain ⟨r, h2, g2⟩ := hb _ _ _ h1
 obtain ⟨m, h3, g3⟩ := hb _ _ _ h2
 obtain ⟨k1, k2, k3, k4, k5, k6⟩ := h3
 exact ⟨_, _, k6, g1 _ (g2 _ (g3 _ ⟨k1, k2, k3, k4, k5, rfl, rfl⟩))⟩
theorem bnds_mono {n : Nat} {lo hi mx : Option AV} {K1 K2 : Nat → Nat → Prop} (h : bnds n lo hi mx K1) (hk : ∀ l r, K1 l r → K2 l r) : bnds n lo hi mx K2 := by
 have hb : ∀ d o (K K' : Int → Prop), bnd d o K → (∀ i, K i → K' i) → bnd d o K' := fun d o K K' h hk => by
  unfold bnd at h ⊢
  split at h
  · exact hk _ h
  · exact hk _ h
  · exact h.elim
 refine hb _ _ _ _ h fun l h => hb _ _ _ _ h fun r h => hb _ _ _ _ h fun m ⟨k1, k2, k3, k4, k5, k6⟩ => ⟨k1, k2, k3, k4, k5, hk _ _ k6⟩
theorem cut_pin {k : TK} {tab : Tab} {lo hi mx : Option AV} {a : AV} (h : cutK k tab mem0 lo hi mx a K) : ∃ r, K r mem0 ∧ ∀ M0, cutK k tab M0 lo hi mx a fun z M2 => z = r ∧ M2 = M0 := by
 unfold cutK at h
 split at h
 · split at h
   · obtain ⟨ti, _, h⟩ := h; exact (blk0 h).elim
   · exact h.elim
 · split at h
   · obtain ⟨ti, h1, h2, h3⟩ := h
     obtain ⟨l, r, h4, h5⟩ := bnds_pin h3
     exact ⟨_, h4, fun M0 => ⟨ti, h1, h2, bnds_mono h5 fun l' r' ⟨e1, e2⟩ => by subst e1 e2; exact ⟨rfl, rfl⟩⟩⟩
   · exact h.elim
 · split at h
   · obtain ⟨ti, h1, h3⟩ := h
     obtain ⟨l, r, h4, h5⟩ := bnds_pin h3
     exact ⟨_, h4, fun M0 => ⟨ti, h1, bnds_mono h5 fun l' r' ⟨e1, e2⟩ => ⟨rfl, rfl⟩⟩⟩
   · exact h.elim
 · split at h
   · obtain ⟨h1, h3⟩ := h
     obtain ⟨l, r, h4, h5⟩ := bnds_pin h3
     exact ⟨_, h4, fun M0 => ⟨h1, bnds_mono h5 fun l' r' ⟨e1, e2⟩ => by subst e1 e2; exact ⟨rfl, rfl⟩⟩⟩
   · exact h.elim
 · split at h
   · obtain ⟨e1, e2, e3, e4, e5, e6, e7, h9⟩ := h; exact ⟨_, h9, fun M0 => ⟨e1, e2, e3, e4, e5, e6, e7, rfl, rfl⟩⟩
   · exact h.elim
 · exact h.elim
theorem load_pin {ti : TI} {a : AV} (h : loadK ti mem0 a K) : ∃ r, K r mem0 ∧ ∀ M0, loadK ti M0 a fun z M2 => z = r ∧ M2 = M0 := by
 unfold loadK at h
 split at h
 · exact (blk0 h).elim
 · exact ⟨_, h.2.2, fun _ => ⟨h.1, h.2.1, rfl, rfl⟩⟩
 · obtain ⟨h1, h2, h3, vs, u, h4, h5, h6, h7⟩ := h; exact ⟨_, h7, fun _ => ⟨h1, h2, h3, vs, u, h4, h5, h6, rfl, rfl⟩⟩
 · exact h.elim
theorem field_pin {fs : List (Nat × TypeId)} {ti : TI} {f : Nat} {a : AV} (h : fieldK fs ti f mem0 a K) : ∃ r, K r mem0 ∧ ∀ M0, fieldK fs ti f M0 a fun z M2 => z = r ∧ M2 = M0 := by
 unfold fieldK at h
 split at h
 · exact ⟨_, h.2, fun _ => ⟨h.1, rfl, rfl⟩⟩
 · exact ⟨_, h.2.2, fun _ => ⟨h.1, h.2.1, rfl, rfl⟩⟩
 · exact h.elim
theorem idx_pin {sz : Nat} {a b : AV} (h : idxK sz mem0 a b K) : ∃ r, K r mem0 ∧ ∀ M0, idxK sz M0 a b fun z M2 => z = r ∧ M2 = M0 := by
 unfold idxK at h
 split at h
 · exact (blk0 h.2).elim
 · obtain ⟨h1, h2, h3, h4, h5⟩ := h; exact ⟨_, h5, fun _ => ⟨h1, h2, h3, h4, rfl, rfl⟩⟩
 · exact h.elim
end
theorem idx2_pin {tab : Tab} {T : TypeId} {a b : AV} {K : AV → Mem → Prop} (h : idx2K tab T mem0 a b K) : ∃ r, K r mem0 ∧ ∀ M0, idx2K tab T M0 a b fun z M2 => z = r ∧ M2 = M0 := by
 unfold idx2K at h
 split at h
 · obtain ⟨tt, k1, n, e, k2, ti, k3, k4, k5, k6, k7⟩ := h
   exact ⟨_, k7, fun M0 => ⟨tt, k1, n, e, k2, ti, k3, k4, k5, k6, rfl, rfl⟩⟩
 · rename_i hn
   obtain ⟨tt, k1, e, k2, ti, k3, k4⟩ := h
   obtain ⟨r, h1, h2⟩ := idx_pin k4
   refine ⟨r, h1, fun M0 => ?_⟩
   unfold idx2K
   split
   · exact (hn _ _ _ rfl rfl).elim
   · exact ⟨tt, k1, e, k2, ti, k3, h2 M0⟩
theorem free_pin {P : Program} {tab : Tab} {sl : Slots} {N : Nat} {K : AV → Mem → Prop} {op : Op} (hf : freeOk sl op) (h : opK pf P tab ⟨sl, mem0, N⟩ K op) :
 ∃ r, K r mem0 ∧ ∀ M0, opK pf P tab ⟨sl, M0, N⟩ (fun a M2 => a = r ∧ M2 = M0) op := by
 cases op <;> try exact hf.elim
 case move z => exact ⟨_, h, fun _ => ⟨rfl, rfl⟩⟩
 case assign z => exact ⟨_, h, fun _ => ⟨rfl, rfl⟩⟩
 case pick c a b =>
  obtain ⟨r, h1, h2⟩ := pick_pin h
  refine ⟨r, h1, fun M0 => ?_⟩
  simp only [opK, and_true]; exact h2
 case unOp op T z =>
  obtain ⟨r, h1, h2⟩ := un_pin h
  refine ⟨r, h1, fun M0 => ?_⟩
  simp only [opK, and_true]; exact h2
 case extract z i =>
  obtain ⟨r, h1, h2⟩ := extract_pin h
  refine ⟨r, h1, fun M0 => ?_⟩
  simp only [opK, and_true]; exact h2
 case nilCheck z =>
  obtain ⟨r, h1, h2⟩ := nilCheck_pin h
  refine ⟨r, h1, fun M0 => ?_⟩
  simp only [opK, and_true]; exact h2
 case field S z f =>
  obtain ⟨tS, k1, fs, k2, k3, ti, k4, k5, k6⟩ := h
  obtain ⟨r, h1, h2⟩ := fieldV_pin k6
  refine ⟨r, h1, fun M0 => ⟨tS, k1, fs, k2, k3, ti, k4, k5, ?_⟩⟩
  simp only [and_true]; exact h2
 case binOp op T z y yT =>
  obtain ⟨ti, k1, k2⟩ := h
  obtain ⟨r, h1, h2⟩ := bin_pin hf k2
  exact ⟨r, h1, fun M0 => ⟨ti, k1, h2 M0⟩⟩
 case convert a b z =>
  obtain ⟨ta, k1, tb, k2, k3, k4⟩ := h
  obtain ⟨r, h1, h2⟩ := cv_pin k4
  exact ⟨r, h1, fun M0 => ⟨ta, k1, tb, k2, k3, h2 M0⟩⟩
 case slice T z lo hi mx =>
  obtain ⟨ti, k1, k2⟩ := h
  obtain ⟨r, h1, h2⟩ := cut_pin k2
  exact ⟨r, h1, fun M0 => ⟨ti, k1, h2 M0⟩⟩
 case load T z =>
  obtain ⟨ti, k1, k2, k3⟩ := h
  obtain ⟨r, h1, h2⟩ := load_pin k3
  exact ⟨r, h1, fun M0 => ⟨ti, k1, k2, h2 M0⟩⟩
 case fieldAddr S z f =>
  obtain ⟨tS, k1, fs, k2, k3, ti, k4, k5⟩ := h
  obtain ⟨r, h1, h2⟩ := field_pin k5
  exact ⟨r, h1, fun M0 => ⟨tS, k1, fs, k2, k3, ti, k4, h2 M0⟩⟩
 case indexAddr T z i =>
  exact idx2_pin h
 case call c =>
  obtain ⟨callee, ⟨as⟩, ⟨ts⟩⟩ := c
  cases callee <;> try exact hf.elim
  rename_i b
  cases b <;> try exact hf.elim
  all_goals simp only [opK] at h
  case len =>
   match ts, as, h with
   | [t], [a], h =>
    obtain ⟨ti, k1, k2⟩ := h
    obtain ⟨r, h1, h2⟩ := len_pin k2
    refine ⟨r, h1, fun M0 => ⟨ti, k1, ?_⟩⟩
    simp only [and_true]; exact h2
  case max =>
   match as, h with
   | [a, b], h =>
    have hh : maxK (ev sl a) (ev sl b) (fun a => K a mem0) := by cases ts with | nil => exact h | cons _ ts => cases ts <;> exact h
    obtain ⟨r, h1, h2⟩ := max_pin hh
    refine ⟨r, h1, fun M0 => ?_⟩
    have : maxK (ev sl a) (ev sl b) (fun a => a = r ∧ M0 = M0) := by simp only [and_true]; exact h2
    cases ts with | nil => exact this | cons _ ts => cases ts <;> exact this
  case min =>
   match as, h with
   | [a, b], h =>
    have hh : minK (ev sl a) (ev sl b) (fun a => K a mem0) := by cases ts with | nil => exact h | cons _ ts => cases ts <;> exact h
    obtain ⟨r, h1, h2⟩ := min_pin hh
    refine ⟨r, h1, fun M0 => ?_⟩
    have : minK (ev sl a) (ev sl b) (fun a => a = r ∧ M0 = M0) := by simp only [and_true]; exact h2
    cases ts with | nil => exact this | cons _ ts => cases ts <;> exact this
def notOwn : AV → Prop
 | .s _ _ _ => False
 | _ => True
def readOk (sl : Slots) (op : Op) : Prop := freeOk sl op ∧ match op with
 | .slice _ z _ hi _ => notOwn (ev sl z) ∨ hi.isNone = true
 | .convert a b z => Nat.beq a b = false ∨ notOwn (ev sl z)
 | _ => True
section
variable {K : AV → Mem → Prop} {M : Mem}
theorem bin_pinM {P : Program} {op : BinOp} {t : TypeId} {k : TK} {a b : AV} (hn : NoNil b) (h : binK P op t k M a b K) : ∃ r, K r M ∧ binK P op t k M a b fun x M2 => x = r ∧ M2 = M := by
 unfold binK at h
 split at h
 · exact ⟨_, h.2, h.1, rfl, rfl⟩
 · cases op <;> simp only [strBinK] at h <;> first | exact h.elim | exact ⟨_, h, rfl, rfl⟩ | exact ⟨_, h.2, h.1, rfl, rfl⟩
 · cases op <;> cases k <;> simp only [boolBinK] at h <;> first | exact h.elim | exact ⟨_, h, rfl, rfl⟩
 · exact hn.elim
 · exact hn.elim
 · exact hn.elim
 · cases op <;> simp only [aggBinK] at h <;> first | exact h.elim | (obtain ⟨b, h1, h2⟩ := h; exact ⟨_, h2, b, h1, rfl, rfl⟩)
 · exact h.elim
theorem src_pinM {sz : Nat} {a : AV} {K2 : List AV → Prop} (h : srcK sz M a K2) : ∃ r, K2 r ∧ srcK sz M a (· = r) := by
 unfold srcK at h
 split at h
 · exact ⟨_, h.2, h.1, rfl⟩
 · obtain ⟨b, h1, h2, h3, h4⟩ := h; exact ⟨_, h4, b, h1, h2, h3, rfl⟩
 · exact ⟨_, h, rfl⟩
 · exact ⟨_, h.2, h.1, rfl⟩
 · exact h.elim
theorem conv_pinM {ks kd : TK} {tab : Tab} {a : AV} (h : convK ks kd tab M a K) : ∃ r, K r M ∧ convK ks kd tab M a fun z M2 => z = r ∧ M2 = M := by
 unfold convK at h
 split at h
 · cases kd <;> simp only [intConvK] at h <;> first | exact h.elim | exact ⟨_, h, rfl, rfl⟩
 · cases ks <;> cases kd <;> simp only [strConvK] at h <;> first | exact h.elim | exact ⟨_, h, rfl, rfl⟩ | exact ⟨_, h.2, h.1, rfl, rfl⟩
 · rename_i hn1 hn2
   have hk : ∀ (K : AV → Mem → Prop), convK ks kd tab M a K = bytesStrK tab M a K ks kd := fun K => by
    unfold convK
    split
    · exact absurd rfl (hn1 _ _)
    · exact absurd rfl (hn2 _)
    · rfl
   cases ks <;> cases kd <;> simp only [bytesStrK] at h <;> try exact h.elim
   obtain ⟨h1, h2⟩ := h
   obtain ⟨l, ⟨g1, g2⟩, g3⟩ := src_pinM h2
   refine ⟨_, g2, ?_⟩
   rw [hk]
   exact ⟨h1, srcK_mono g3 fun l' e => by subst e; exact ⟨g1, rfl, rfl⟩⟩
theorem cv_pinM {a b : TypeId} {ks kd : TK} {tab : Tab} {z : AV} (hr : Nat.beq a b = false ∨ notOwn z) (h : cvK (Nat.beq a b) ks kd tab M z K) : ∃ r, K r M ∧ cvK (Nat.beq a b) ks kd tab M z fun z M2 => z = r ∧ M2 = M := by
 have hl : litC (Nat.beq a b) ks z = false := by
  cases ks <;> cases z <;> try rfl
  rcases hr with hr | hr
  · exact hr
  · exact hr.elim
 unfold cvK at h ⊢
 rw [hl] at h ⊢
 exact conv_pinM h
theorem cut_pinM {k : TK} {tab : Tab} {lo hi mx : Option AV} {a : AV} (hn : notOwn a ∨ hi.isNone = true) (h : cutK k tab M lo hi mx a K) : ∃ r, K r M ∧ cutK k tab M lo hi mx a fun z M2 => z = r ∧ M2 = M := by
 unfold cutK at h
 split at h
 · split at h
   · obtain ⟨ti, h1, b, g1, g2, g3, h3⟩ := h
     rcases hn with hn | hn
     · exact hn.elim
     · rw [hn] at h3
       obtain ⟨l, r, h4, h5⟩ := bnds_pin h3
       simp only [if_true] at h4
       refine ⟨_, h4, ti, h1, b, g1, g2, g3, bnds_mono h5 fun l' r' ⟨e1, e2⟩ => ?_⟩
       subst e1 e2
       rw [hn]; exact ⟨rfl, rfl⟩
   · exact h.elim
 · split at h
   · obtain ⟨ti, h1, h2, h3⟩ := h
     obtain ⟨l, r, h4, h5⟩ := bnds_pin h3
     exact ⟨_, h4, ti, h1, h2, bnds_mono h5 fun l' r' ⟨e1, e2⟩ => by subst e1 e2; exact ⟨rfl, rfl⟩⟩
   · exact h.elim
 · split at h
   · obtain ⟨ti, h1, h3⟩ := h
     obtain ⟨l, r, h4, h5⟩ := bnds_pin h3
     exact ⟨_, h4, ti, h1, bnds_mono h5 fun l' r' ⟨e1, e2⟩ => ⟨rfl, rfl⟩⟩
   · exact h.elim
 · split at h
   · obtain ⟨h1, h3⟩ := h
     obtain ⟨l, r, h4, h5⟩ := bnds_pin h3
     exact ⟨_, h4, h1, bnds_mono h5 fun l' r' ⟨e1, e2⟩ => by subst e1 e2; exact ⟨rfl, rfl⟩⟩
   · exact h.elim
 · split at h
   · obtain ⟨e1, e2, e3, e4, e5, e6, e7, h9⟩ := h; exact ⟨_, h9, e1, e2, e3, e4, e5, e6, e7, rfl, rfl⟩
   · exact h.elim
 · exact h.elim
theorem load_pinM {ti : TI} {a : AV} (h : loadK ti M a K) : ∃ r, K r M ∧ loadK ti M a fun z M2 => z = r ∧ M2 = M := by
 unfold loadK at h
 split at h
 · obtain ⟨b, h1, h2, h3, h4, hi, h5⟩ := h; exact ⟨_, h5, b, h1, h2, h3, h4, hi, rfl, rfl⟩
 · exact ⟨_, h.2.2, h.1, h.2.1, rfl, rfl⟩
 · obtain ⟨h1, h2, h3, vs, u, h4, h5, h6, h7⟩ := h; exact ⟨_, h7, h1, h2, h3, vs, u, h4, h5, h6, rfl, rfl⟩
 · exact h.elim
theorem field_pinM {fs : List (Nat × TypeId)} {ti : TI} {f : Nat} {a : AV} (h : fieldK fs ti f M a K) : ∃ r, K r M ∧ fieldK fs ti f M a fun z M2 => z = r ∧ M2 = M := by
 unfold fieldK at h
 split at h
 · exact ⟨_, h.2, h.1, rfl, rfl⟩
 · exact ⟨_, h.2.2, h.1, h.2.1, rfl, rfl⟩
 · exact h.elim
theorem idx_pinM {sz : Nat} {a b : AV} (h : idxK sz M a b K) : ∃ r, K r M ∧ idxK sz M a b fun z M2 => z = r ∧ M2 = M := by
 unfold idxK at h
 split at h
 · obtain ⟨h0, b, h1, h2, h3, h4⟩ := h; exact ⟨_, h4, h0, b, h1, h2, h3, rfl, rfl⟩
 · obtain ⟨h1, h2, h3, h4, h5⟩ := h; exact ⟨_, h5, h1, h2, h3, h4, rfl, rfl⟩
 · exact h.elim
end
theorem read_pin {P : Program} {tab : Tab} {sl : Slots} {M : Mem} {N : Nat} {K : AV → Mem → Prop} {op : Op} (hr : readOk sl op) (h : opK pf P tab ⟨sl, M, N⟩ K op) :
 ∃ r, K r M ∧ opK pf P tab ⟨sl, M, N⟩ (fun a M2 => a = r ∧ M2 = M) op := by
 obtain ⟨hf, hr⟩ := hr
 cases op <;> try exact hf.elim
 case move z => exact ⟨_, h, rfl, rfl⟩
 case assign z => exact ⟨_, h, rfl, rfl⟩
 case pick c a b =>
  obtain ⟨r, h1, h2⟩ := pick_pin h
  refine ⟨r, h1, ?_⟩
  simp only [opK, and_true]; exact h2
 case unOp op T z =>
  obtain ⟨r, h1, h2⟩ := un_pin h
  refine ⟨r, h1, ?_⟩
  simp only [opK, and_true]; exact h2
 case extract z i =>
  obtain ⟨r, h1, h2⟩ := extract_pin h
  refine ⟨r, h1, ?_⟩
  simp only [opK, and_true]; exact h2
 case nilCheck z =>
  obtain ⟨r, h1, h2⟩ := nilCheck_pin h
  refine ⟨r, h1, ?_⟩
  simp only [opK, and_true]; exact h2
 case field S z f =>
  obtain ⟨tS, k1, fs, k2, k3, ti, k4, k5, k6⟩ := h
  obtain ⟨r, h1, h2⟩ := fieldV_pin k6
  refine ⟨r, h1, tS, k1, fs, k2, k3, ti, k4, k5, ?_⟩
  simp only [and_true]; exact h2
 case binOp op T z y yT =>
  obtain ⟨ti, k1, k2⟩ := h
  obtain ⟨r, h1, h2⟩ := bin_pinM hf k2
  exact ⟨r, h1, ti, k1, h2⟩
 case convert a b z =>
  obtain ⟨ta, k1, tb, k2, k3, k4⟩ := h
  obtain ⟨r, h1, h2⟩ := cv_pinM hr k4
  exact ⟨r, h1, ta, k1, tb, k2, k3, h2⟩
 case slice T z lo hi mx =>
  obtain ⟨ti, k1, k2⟩ := h
  obtain ⟨r, h1, h2⟩ := cut_pinM (Or.imp_right (fun h => by simpa using h) hr) k2
  exact ⟨r, h1, ti, k1, h2⟩
 case load T z =>
  obtain ⟨ti, k1, k2, k3⟩ := h
  obtain ⟨r, h1, h2⟩ := load_pinM k3
  exact ⟨r, h1, ti, k1, k2, h2⟩
 case fieldAddr S z f =>
  obtain ⟨tS, k1, fs, k2, k3, ti, k4, k5⟩ := h
  obtain ⟨r, h1, h2⟩ := field_pinM k5
  exact ⟨r, h1, tS, k1, fs, k2, k3, ti, k4, h2⟩
 case indexAddr T z i =>
  have h' : idx2K tab T M (ev sl z) (ev sl i) K := h
  show ∃ r, K r M ∧ idx2K tab T M (ev sl z) (ev sl i) fun x M2 => x = r ∧ M2 = M
  unfold idx2K at h'
  split at h'
  · rename_i e1 e2
    obtain ⟨tt, k1, n, e, k2, ti, k3, k4, k5, k6, k7⟩ := h'
    rw [e1, e2]
    exact ⟨_, k7, tt, k1, n, e, k2, ti, k3, k4, k5, k6, rfl, rfl⟩
  · rename_i hn
    obtain ⟨tt, k1, e, k2, ti, k3, k4⟩ := h'
    obtain ⟨r, h1, h2⟩ := idx_pinM k4
    refine ⟨r, h1, ?_⟩
    unfold idx2K
    split
    · rename_i e1 e2
      exact (hn _ _ _ e1 e2).elim
    · exact ⟨tt, k1, e, k2, ti, k3, h2⟩
 case call c =>
  obtain ⟨callee, ⟨as⟩, ⟨ts⟩⟩ := c
  cases callee <;> try exact hf.elim
  rename_i b
  cases b <;> try exact hf.elim
  all_goals simp only [opK] at h
  case len =>
   match ts, as, h with
   | [t], [a], h =>
    obtain ⟨ti, k1, k2⟩ := h
    obtain ⟨r, h1, h2⟩ := len_pin k2
    refine ⟨r, h1, ti, k1, ?_⟩
    simp only [and_true]; exact h2
  case max =>
   match as, h with
   | [a, b], h =>
    have hh : maxK (ev sl a) (ev sl b) (fun a => K a M) := by cases ts with | nil => exact h | cons _ ts => cases ts <;> exact h
    obtain ⟨r, h1, h2⟩ := max_pin hh
    refine ⟨r, h1, ?_⟩
    have : maxK (ev sl a) (ev sl b) (fun a => a = r ∧ M = M) := by simp only [and_true]; exact h2
    cases ts with | nil => exact this | cons _ ts => cases ts <;> exact this
  case min =>
   match as, h with
   | [a, b], h =>
    have hh : minK (ev sl a) (ev sl b) (fun a => K a M) := by cases ts with | nil => exact h | cons _ ts => cases ts <;> exact h
    obtain ⟨r, h1, h2⟩ := min_pin hh
    refine ⟨r, h1, ?_⟩
    have : minK (ev sl a) (ev sl b) (fun a => a = r ∧ M = M) := by simp only [and_true]; exact h2
    cases ts with | nil => exact this | cons _ ts => cases ts <;> exact this
theorem viewC_none {M M0 : Mem} {a : AV} (h : idsC a = []) : viewC M a = viewC M0 a := by
 cases a <;> first | rfl | (simp [idsC] at h)
theorem vokC_none {M M0 : Mem} {a : AV} (h : idsC a = []) (hv : VOkC M a) : VOkC M0 a := by
 cases a <;> first | exact hv | (simp [idsC] at h)
theorem viewA_none {M M0 : Mem} {a : AV} (h : idsA a = []) : viewA M a = viewA M0 a := by
 cases a with
 | g cs =>
  simp only [viewA, AV.g.injEq]
  refine List.map_congr_left fun c hc => viewC_none ?_
  simp only [idsA, List.flatMap_eq_nil_iff] at h
  exact h c hc
 | _ =>
  simp only [viewA]
  exact viewC_none (by simpa only [idsA] using h)
theorem allV_none {M M0 : Mem} : ∀ {l : List AV}, (∀ c ∈ l, idsC c = []) → AllV M l → AllV M0 l
 | [], _, _ => trivial
 | c :: r, h, hv => ⟨vokC_none (h c (by simp)) hv.1, allV_none (fun d hd => h d (by simp [hd])) hv.2⟩
theorem vokA_none {M M0 : Mem} {a : AV} (h : idsA a = []) (hv : VOkA M a) : VOkA M0 a := by
 cases a with
 | g cs =>
  simp only [idsA, List.flatMap_eq_nil_iff] at h
  exact allV_none h hv
 | _ =>
  have h' := h
  simp only [idsA] at h'
  exact vokC_none (M := M) (M0 := M0) h' hv
theorem viewP_none {M M0 : Mem} : ∀ {ps : List (Nat × AV)}, idsP ps = [] → viewP M ps = viewP M0 ps ∧ (AllVP M ps → AllVP M0 ps)
 | [], _ => ⟨rfl, fun h => h⟩
 | (i, a) :: r, h => by
  simp only [idsP, List.append_eq_nil_iff] at h
  obtain ⟨h1, h2⟩ := viewP_none (M := M) (M0 := M0) h.2
  exact ⟨by simp only [viewP, h1, viewA_none (M := M) (M0 := M0) h.1], fun hv => ⟨vokA_none h.1 hv.1, h2 hv.2⟩⟩
theorem lit_pin {ti : TI} {ps : List (Nat × AV)} {K : AV → Mem → Prop} (h : litK ti mem0 ps K) : ∃ r, K r mem0 ∧ ∀ M0, litK ti M0 ps fun a M2 => a = r ∧ M2 = M0 := by
 obtain ⟨h1, h2, h3, h4, h5, h6⟩ := h
 refine ⟨_, h6, fun M0 => ?_⟩
 obtain ⟨g1, g2⟩ := viewP_none (M := mem0) (M0 := M0) h2
 exact ⟨g2 h1, h2, h3, h4, by rw [← g1]; exact h5, by rw [g1], rfl⟩
def backM (K : ASt → Prop) (m : Mem) (s : ASt) : Prop := K ⟨s.sl, m, s.N⟩
def stepZ (pf : Value → Mem → Prop) (P : Program) (tab : Tab) (K : ASt → Prop) (dst : Option Tmp) (op : Op) (s : ASt) : Prop :=
 match op with
 | .buildSlice T n ps => opZ pf P tab ⟨s.sl, mem0, s.N⟩ (fun a _ => setK s K dst a s.m) (.buildSlice T n ps)
 | op => freeOk s.sl op ∧ aopS pf P tab (backM K s.m) dst op ⟨s.sl, mem0, s.N⟩
def stepS (pf : Value → Mem → Prop) (P : Program) (tab : Tab) : Nat → (ASt → Prop) → Option Tmp → Op → ASt → Prop
 | 1, K, dst, op, s => ∃ r M', opX pf P tab s (fun a M2 => a = r ∧ M2 = M') op ∧ setK s K dst r M'
 | 2, K, dst, op, s => readOk s.sl op ∧ aopS pf P tab (backM K s.m) dst op s
 | 3, K, dst, op, s => ∃ r, (∀ M0, opZ pf P tab ⟨s.sl, M0, s.N⟩ (fun a M2 => a = r ∧ M2 = M0) op) ∧ setK s K dst r s.m
 | _, K, dst, op, s => stepZ pf P tab K dst op s
theorem stepS_else {P : Program} {tab : Tab} {c : Nat} {K : ASt → Prop} {dst : Option Tmp} {op : Op} {s : ASt} (h1 : c ≠ 1) (h2 : c ≠ 2) (h3 : c ≠ 3) :
 stepS pf P tab c K dst op s = stepZ pf P tab K dst op s := by
 unfold stepS
 split
 · exact absurd rfl h1
 · exact absurd rfl h2
 · exact absurd rfl h3
 · rfl
def drS (pf : Value → Mem → Prop) (P : Program) (tab : Tab) (ops : Array Oper) : List Oper → List Nat → (ASt → Prop) → ASt → Prop
 | [], _, K, s => K s
 | _ :: _, [], _, _ => False
 | o :: l, c :: cs, K, s => guardK ops s o.guard (stepS pf P tab c (drS pf P tab ops l cs K) o.dst o.op s) (setK s (drS pf P tab ops l cs K) o.dst (.t []) s.m)
theorem setK_dst {s : ASt} {K : ASt → Prop} {dst : Option Tmp} {a : AV} {M : Mem} (h : setK s K dst a M) : (∀ d, dst = some d → d < s.N) ∧ K ⟨putO s.sl dst a, M, s.N⟩ := by
 cases dst with
 | none => exact ⟨(fun _ h => by cases h), h⟩
 | some d => exact ⟨fun d' h' => by cases h'; exact h.1, h.2⟩
theorem aopS_op {P : Program} {tab : Tab} {K : ASt → Prop} {dst : Option Tmp} {op : Op} {s : ASt} (hf : freeOk s.sl op) (h : aopS pf P tab K dst op s) : opK pf P tab s (fun a M => setK s K dst a M) op := by
 unfold aopS aop at h
 cases op <;> first | exact h | exact hf.elim
theorem opZ_of {P : Program} {tab : Tab} {K : AV → Mem → Prop} {op : Op} {s : ASt} {sl : Slots} (hf : freeOk sl op) (h : opK pf P tab s K op) : opZ pf P tab s K op := by
 cases op <;> first | exact h | exact hf.elim
theorem stepZ_pin {P : Program} {tab : Tab} {K : ASt → Prop} {dst : Option Tmp} {op : Op} {s : ASt} (h : stepZ pf P tab K dst op s) :
 ∃ r, setK s K dst r s.m ∧ ∀ M0, opZ pf P tab ⟨s.sl, M0, s.N⟩ (fun a M2 => a = r ∧ M2 = M0) op := by
 unfold stepZ at h
 split at h
 · obtain ⟨tt, h1, e, h2, ti, h3, h4, h5, h6⟩ := h
   obtain ⟨r, k1, k2⟩ := lit_pin h6
   exact ⟨r, k1, fun M0 => ⟨tt, h1, e, h2, ti, h3, h4, h5, k2 M0⟩⟩
 · obtain ⟨h0, h1⟩ := h
   obtain ⟨r, h2, h3⟩ := free_pin h0 (aopS_op h0 h1)
   refine ⟨r, ?_, fun M0 => opZ_of h0 (h3 M0)⟩
   cases dst <;> exact h2
theorem opX_of {P : Program} {tab : Tab} {K : AV → Mem → Prop} {op : Op} {s : ASt} {sl : Slots} (hf : freeOk sl op) (h : opK pf P tab s K op) : opX pf P tab s K op := by
 cases op <;> first | exact h | exact hf.elim
theorem drS_trace {P : Program} {tab : Tab} {ops : Array Oper} {K : ASt → Prop} : ∀ (l : List Oper) (hv : List Nat) (s : ASt), drS pf P tab ops l hv K s → TraceL pf P tab ops s.N l hv s.sl s.m K
 | [], hv, s, h => ⟨fun _ => s.sl, fun _ => s.m, fun _ => .x, rfl, rfl, fun i h => absurd h (by simp), h⟩
 | o :: l, [], s, h => h.elim
 | o :: l, c :: hs, s, h => by
  have hyes : stepS pf P tab c (drS pf P tab ops l hs K) o.dst o.op s → Gd ops s.N s.sl o.guard true → TraceL pf P tab ops s.N (o :: l) (c :: hs) s.sl s.m K := fun h hg => by
   by_cases n1 : c = 1
   · subst n1
     obtain ⟨r, M', h1, h2⟩ := h
     obtain ⟨k1, k2⟩ := setK_dst h2
     exact .cons ⟨k1, true, hg, fun _ _ => h1, (fun _ h => by cases h), (fun _ h => absurd rfl h), (fun h => by cases h)⟩ (drS_trace l hs _ k2)
   · by_cases n2 : c = 2
     · subst n2
       obtain ⟨h0, h1⟩ := h
       obtain ⟨r, h2, h3⟩ := read_pin h0 (aopS_op h0.1 h1)
       obtain ⟨k1, k2⟩ := setK_dst h2
       exact .cons ⟨k1, true, hg, (fun _ h => by cases h), (fun _ _ => ⟨rfl, opX_of h0.1 h3⟩), (fun _ _ h => absurd rfl h), (fun h => by cases h)⟩ (drS_trace l hs ⟨putO s.sl o.dst r, s.m, s.N⟩ k2)
     · have h : ∃ r, setK s (drS pf P tab ops l hs K) o.dst r s.m ∧ ∀ M0, opZ pf P tab ⟨s.sl, M0, s.N⟩ (fun a M2 => a = r ∧ M2 = M0) o.op := by
        by_cases n3 : c = 3
        · subst n3
          obtain ⟨r, h1, h2⟩ := h
          exact ⟨r, h2, h1⟩
        · rw [stepS_else n1 n2 n3] at h
          exact stepZ_pin h
       obtain ⟨r, h2, h3⟩ := h
       obtain ⟨k1, k2⟩ := setK_dst h2
       exact .cons ⟨k1, true, hg, (fun _ h => absurd h n1), (fun _ h => absurd h n2), (fun _ _ _ => ⟨rfl, h3⟩), (fun h => by cases h)⟩ (drS_trace l hs ⟨putO s.sl o.dst r, s.m, s.N⟩ k2)
  have hno : setK s (drS pf P tab ops l hs K) o.dst (.t []) s.m → Gd ops s.N s.sl o.guard false → TraceL pf P tab ops s.N (o :: l) (c :: hs) s.sl s.m K := fun h hg => by
   obtain ⟨k1, k2⟩ := setK_dst h
   exact .cons ⟨k1, false, hg, (fun h => by cases h), (fun h => by cases h), (fun h => by cases h), fun _ => ⟨rfl, rfl⟩⟩ (drS_trace l hs _ k2)
  unfold drS at h
  cases hgo : o.guard with
  | none =>
   rw [hgo] at h hyes
   exact hyes h rfl
  | some q =>
   obtain ⟨j, w⟩ := q
   rw [hgo] at h hyes hno
   obtain ⟨d, b, h1, h2, h3, h4⟩ := h
   cases b with
   | true =>
    simp only [if_true] at h4
    exact hyes h4 ⟨d, true, h1, h2, h3, rfl⟩
   | false =>
    simp only [Bool.false_eq_true, if_false] at h4
    exact hno h4 ⟨d, false, h1, h2, h3, rfl⟩
theorem draw_rule {P : Program} {tab : Tab} (hT : TabOk P tab) (hm : P.follows .mixedOrders = true) {ops : Array Oper} (hv : List Nat) (anc : List (List Nat)) (hd : drawOk ops hv anc = true) {id : Nat} {KE : Exit → ASt → Prop} {s : ASt}
 (h : drS pf P tab ops ops.toList hv (KE .normal) s) : ACodeG pf P (.region id ops true) KE s :=
 draw_sound hm hT hd (drS_trace _ _ _ h)
section
variable {P : Program} {tab : Tab} {ops : Array Oper} {K : ASt → Prop} {dst : Option Tmp} {sl : Slots} {m : Mem} {N : Nat} {s : ASt} {l : List Oper} {hs : List Nat} {h : Nat} {op : Op} {ty : TypeId} {pos : String} {af : Array Edge} {j : Nat} {w : Bool}
theorem d_nil {hs : List Nat} : drS pf P tab ops [] hs K s = K s := by unfold drS; rfl
theorem d_op : drS pf P tab ops (⟨dst, op, ty, pos, af, none⟩ :: l) (h :: hs) K s = stepS pf P tab h (drS pf P tab ops l hs K) dst op s := rfl
theorem d_opg : drS pf P tab ops (⟨dst, op, ty, pos, af, some (j, w)⟩ :: l) (h :: hs) K s = gS ((ops[j]?).bind (·.dst)) w (stepS pf P tab h (drS pf P tab ops l hs K) dst op) (skS (drS pf P tab ops l hs K) dst) s := rfl
theorem d_free : stepS pf P tab 0 K dst op ⟨sl, m, N⟩ = stepZ pf P tab K dst op ⟨sl, m, N⟩ := rfl
def setZ (sl : Slots) (N : Nat) (K : ASt → Prop) (dst : Option Tmp) (m : Mem) (a : AV) (_ : Mem) : Prop := setT sl N K dst a m
theorem z_move {x1 : Operand} : stepZ pf P tab K dst (.move x1) ⟨sl, m, N⟩ = (freeOk sl (.move x1) ∧ aopS pf P tab (backM K m) dst (.move x1) ⟨sl, mem0, N⟩) := rfl
theorem z_assign {x1 : Operand} : stepZ pf P tab K dst (.assign x1) ⟨sl, m, N⟩ = (freeOk sl (.assign x1) ∧ aopS pf P tab (backM K m) dst (.assign x1) ⟨sl, mem0, N⟩) := rfl
theorem z_pick {x1 x2 x3 : Operand} : stepZ pf P tab K dst (.pick x1 x2 x3) ⟨sl, m, N⟩ = (freeOk sl (.pick x1 x2 x3) ∧ aopS pf P tab (backM K m) dst (.pick x1 x2 x3) ⟨sl, mem0, N⟩) := rfl
theorem z_unOp {u : UnOp} {T : TypeId} {x1 : Operand} : stepZ pf P tab K dst (.unOp u T x1) ⟨sl, m, N⟩ = (freeOk sl (.unOp u T x1) ∧ aopS pf P tab (backM K m) dst (.unOp u T x1) ⟨sl, mem0, N⟩) := rfl
theorem z_extract {x1 : Operand} {i : Nat} : stepZ pf P tab K dst (.extract x1 i) ⟨sl, m, N⟩ = (freeOk sl (.extract x1 i) ∧ aopS pf P tab (backM K m) dst (.extract x1 i) ⟨sl, mem0, N⟩) := rfl
theorem z_convert {T U : TypeId} {x1 : Operand} : stepZ pf P tab K dst (.convert T U x1) ⟨sl, m, N⟩ = (freeOk sl (.convert T U x1) ∧ aopS pf P tab (backM K m) dst (.convert T U x1) ⟨sl, mem0, N⟩) := rfl
theorem z_slice {T : TypeId} {x1 : Operand} {l1 l2 l3 : Option Operand} : stepZ pf P tab K dst (.slice T x1 l1 l2 l3) ⟨sl, m, N⟩ = (freeOk sl (.slice T x1 l1 l2 l3) ∧ aopS pf P tab (backM K m) dst (.slice T x1 l1 l2 l3) ⟨sl, mem0, N⟩) := rfl
theorem z_field {T : TypeId} {x1 : Operand} {i : Nat} : stepZ pf P tab K dst (.field T x1 i) ⟨sl, m, N⟩ = (freeOk sl (.field T x1 i) ∧ aopS pf P tab (backM K m) dst (.field T x1 i) ⟨sl, mem0, N⟩) := rfl
theorem z_load {T : TypeId} {x1 : Operand} : stepZ pf P tab K dst (.load T x1) ⟨sl, m, N⟩ = (freeOk sl (.load T x1) ∧ aopS pf P tab (backM K m) dst (.load T x1) ⟨sl, mem0, N⟩) := rfl
theorem z_indexAddr {T : TypeId} {x1 x2 : Operand} : stepZ pf P tab K dst (.indexAddr T x1 x2) ⟨sl, m, N⟩ = (freeOk sl (.indexAddr T x1 x2) ∧ aopS pf P tab (backM K m) dst (.indexAddr T x1 x2) ⟨sl, mem0, N⟩) := rfl
theorem z_fieldAddr {T : TypeId} {x1 : Operand} {i : Nat} : stepZ pf P tab K dst (.fieldAddr T x1 i) ⟨sl, m, N⟩ = (freeOk sl (.fieldAddr T x1 i) ∧ aopS pf P tab (backM K m) dst (.fieldAddr T x1 i) ⟨sl, mem0, N⟩) := rfl
theorem z_nilCheck {x1 : Operand} : stepZ pf P tab K dst (.nilCheck x1) ⟨sl, m, N⟩ = (freeOk sl (.nilCheck x1) ∧ aopS pf P tab (backM K m) dst (.nilCheck x1) ⟨sl, mem0, N⟩) := rfl
theorem z_binOp {b : BinOp} {T U : TypeId} {x1 x2 : Operand} : stepZ pf P tab K dst (.binOp b T x1 x2 U) ⟨sl, m, N⟩ = (freeOk sl (.binOp b T x1 x2 U) ∧ aopS pf P tab (backM K m) dst (.binOp b T x1 x2 U) ⟨sl, mem0, N⟩) := rfl
theorem z_call {c : Call} : stepZ pf P tab K dst (.call c) ⟨sl, m, N⟩ = (freeOk sl (.call c) ∧ aopS pf P tab (backM K m) dst (.call c) ⟨sl, mem0, N⟩) := rfl
theorem z_lit {T : TypeId} {n : Nat} {ps : Array (Nat × Operand)} : stepZ pf P tab K dst (.buildSlice T n ps) ⟨sl, m, N⟩ = tiK tab T fun tt => slK tt.k fun e => tiK tab e fun ti =>
 n = ps.toList.length ∧ (ps.toList.map fun p => p.1) = List.range' 0 n ∧ litK ti mem0 (ps.toList.map fun p => (p.1, ev sl p.2)) (setZ sl N K dst m) := by
 have : setZ sl N K dst m = fun a _ => setK ⟨sl, m, N⟩ K dst a m := by funext a _; exact setT_eq.symm
 rw [this]; rfl
theorem z_set {a : AV} {M : Mem} : setZ sl N K dst m a M = setT sl N K dst a m := rfl
theorem d_read : stepS pf P tab 2 K dst op ⟨sl, m, N⟩ = (readOk sl op ∧ aopS pf P tab (backM K m) dst op ⟨sl, m, N⟩) := rfl
theorem d_back : backM K m s = K ⟨s.sl, m, s.N⟩ := rfl
theorem d_heavy {r : AV} {M' : Mem} (h1 : opX pf P tab ⟨sl, m, N⟩ (fun a M2 => a = r ∧ M2 = M') op) (h2 : setT sl N K dst r M') : stepS pf P tab 1 K dst op ⟨sl, m, N⟩ := ⟨r, M', h1, by rw [setT_eq]; exact h2⟩
theorem d_heavyC {f : FuncId} {as : Array Operand} {ts : Array TypeId} {r : AV} {M' : Mem} (h1 : ICallG pf P f (as.toList.map (ev sl)) m (fun a M2 => a = r ∧ M2 = M')) (h2 : setT sl N K dst r M') : stepS pf P tab 1 K dst (.call ⟨.value (.func f), as, ts⟩) ⟨sl, m, N⟩ :=
 d_heavy (by show ICallG pf P f (as.toList.map (fun o => ev sl o) ++ []) m _; rw [List.append_nil]; exact h1) h2
theorem d_pureC {f : FuncId} {as : Array Operand} {ts : Array TypeId} {r : AV} (h1 : ∀ M0, ICallG pf P f (as.toList.map (ev sl)) M0 (fun a M2 => a = r ∧ M2 = M0)) (h2 : setT sl N K dst r m) : stepS pf P tab 3 K dst (.call ⟨.value (.func f), as, ts⟩) ⟨sl, m, N⟩ :=
 ⟨r, fun M0 => by show ICallG pf P f (as.toList.map (fun o => ev sl o) ++ []) M0 _; rw [List.append_nil]; exact h1 M0, by rw [setT_eq]; exact h2⟩
end
end Go.Ab
