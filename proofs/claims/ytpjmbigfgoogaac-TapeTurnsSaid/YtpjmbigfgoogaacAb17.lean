/- Calls by contract: the caller's side. -/
import Derived.Test.YtpjmbigfgoogaacAb16
set_option linter.unusedVariables false
set_option linter.unusedSimpArgs false
set_option linter.constructorNameAsVariable false
namespace Go.Ab
open Go Go.RowKit

theorem without_get (M : Mem) : ∀ (ids : List Nat) (i : Nat), (M.without ids).get i = if i ∈ ids then none else M.get i
  | [], i => by simp [Mem.without]
  | id :: r, i => by
    simp only [Mem.without]
    rw [without_get (M.drop id) r i]
    simp only [Mem.get, Mem.drop, assoc_remove, List.mem_cons]
    by_cases h : i = id
    · subst h; simp
    · simp [h, Ne.symm h]

def OkC (Ok : AV → Prop) : AV → Prop
  | .o _ _ xs => ∀ i (hi : i < xs.length), ∀ j (hj : j < xs[i].cells.length), Ok xs[i].cells[j]
  | a => Ok a
def OkL (Ok : AV → Prop) : List AV → Prop
  | [] => True
  | a :: r => OkC Ok a ∧ OkL Ok r
def OkA (Ok : AV → Prop) : AV → Prop
  | .g cs => OkL Ok cs
  | a => OkC Ok a
def OkLA (Ok : AV → Prop) : List AV → Prop
  | [] => True
  | a :: r => OkA Ok a ∧ OkLA Ok r
def OkR (Ok : AV → Prop) : AV → Prop
  | .t cs => OkLA Ok cs
  | a => OkA Ok a

section
variable {w0 : World} {E1 E' : Env} {M' : Mem} {FZ IDS : List Nat} {Ok : AV → Prop}
theorem blk_eta {T : TypeId} {sz : Nat} {xs : List AV} : (⟨T, sz, xs⟩ : Blk).xs = xs := rfl
theorem expC_thaw (hg : Good w0 E' M') (hOk : ∀ a v, Ok a → Rep (E'.without FZ) a v → Rep (E1.import (E'.without FZ) IDS) a v)
    {a b : AV} {ids fz : List Nat} {v : Value} {pos : Nat} (h : ExpC M' a b ids fz) (hr : Rep E' a v) (hfz : ∀ i ∈ fz, i ∈ FZ) (hids : ∀ i ∈ ids, i ∉ FZ) (hpos : ∀ j, j < ids.length → IDS[pos + j]? = ids[j]?) (ho : OkC Ok b) :
    (ids.length = (blksC b).length ∧ ∀ j (h1 : j < ids.length) (h2 : j < (blksC b).length), (M'.without FZ).get ids[j] = some (blksC b)[j]) ∧ Rep (E1.import (E'.without FZ) IDS) (thawC (E1.k + pos) b) v := by
  have hpure : ∀ a b, Weak1 a b ∧ Under 0 b ∧ ids = [] ∧ fz = [] → Rep E' a v → OkC Ok b → (∀ T sz xs, b ≠ .o T sz xs) →
      (ids.length = (blksC b).length ∧ ∀ j (h1 : j < ids.length) (h2 : j < (blksC b).length), (M'.without FZ).get ids[j] = some (blksC b)[j]) ∧ Rep (E1.import (E'.without FZ) IDS) (thawC (E1.k + pos) b) v := by
    rintro a0 a ⟨hw, hu, rfl, rfl⟩ hr ho hne
    replace hr := hw.rep hr
    have hb : blksC a = [] := by cases a <;> first | rfl | (exact absurd rfl (hne _ _ _))
    have ht : thawC (E1.k + pos) a = a := by cases a <;> first | rfl | (exact absurd rfl (hne _ _ _))
    have hok : Ok a := by cases a <;> first | exact ho | (exact absurd rfl (hne _ _ _))
    rw [hb, ht]
    exact ⟨⟨rfl, fun j h1 => absurd h1 (by simp)⟩, hOk a v hok (hr.later (hg.without FZ).2)⟩
  cases a with
  | s id off n =>
    cases b with
    | o T sz xs =>
      obtain ⟨rfl, rfl, rfl, hM, rfl, hp⟩ := h
      have hnf : id ∉ FZ := hids id (by simp)
      refine ⟨⟨rfl, fun j h1 h2 => ?_⟩, ?_⟩
      · have h0 : j = 0 := by simpa using h1
        subst h0
        simp only [List.getElem_cons_zero, blksC]
        rw [without_get, if_neg hnf]; exact hM
      · cases hr with
        | s _ _ _ A cap hk hh =>
          have hp0 := hpos 0 (by simp)
          simp only [Nat.add_zero, List.getElem?_cons_zero] at hp0
          obtain ⟨hpl, _⟩ := List.getElem?_eq_some_iff.1 hp0
          refine .s _ _ _ A cap (by show E1.k + pos < E1.k + IDS.length; omega) (fun q hq => ?_)
          simp only [Env.import] at hq
          rw [if_neg (by omega)] at hq
          have e : E1.k + pos - E1.k = pos := by omega
          rw [e, hp0] at hq
          simp only [Option.bind_some, Env.without, if_neg hnf] at hq
          exact hh q hq
    | l sz xs =>
      obtain ⟨rfl, rfl, blk, hM, hn, rfl, rfl, hp⟩ := h
      refine ⟨⟨rfl, fun j h1 => absurd h1 (by simp)⟩, ?_⟩
      have := rep_viewC (ids := FZ) hg hr ⟨blk, hM, hn, hp⟩ (fun i hi => hfz i (by simpa [idsC] using hi))
      simp only [viewC, hM] at this
      exact hOk _ _ ho this
    | _ => exact hpure _ _ h hr ho (fun _ _ _ e => by cases e)
  | _ =>
    cases b with
    | o T sz xs =>
      have := h
      simp only [ExpC] at this
      obtain ⟨t1, t2, _⟩ := this
      first | (cases t1.toO; done) | (cases t1.toO; cases t2; done)
    | _ => exact hpure _ _ h hr ho (fun _ _ _ e => by cases e)

theorem expL_thaw (hg : Good w0 E' M') (hOk : ∀ a v, Ok a → Rep (E'.without FZ) a v → Rep (E1.import (E'.without FZ) IDS) a v) :
    ∀ (cs ds : List AV) (ids fz : List Nat) (vs : List Value) (pos : Nat), ExpL M' cs ds ids fz → vs.length = cs.length → (∀ i (h1 : i < cs.length) (h2 : i < vs.length), Rep E' cs[i] vs[i]) →
      (∀ i ∈ fz, i ∈ FZ) → (∀ i ∈ ids, i ∉ FZ) → (∀ j, j < ids.length → IDS[pos + j]? = ids[j]?) → OkL Ok ds →
      (ids.length = (blksL ds).length ∧ ∀ j (h1 : j < ids.length) (h2 : j < (blksL ds).length), (M'.without FZ).get ids[j] = some (blksL ds)[j]) ∧
      (thawL (E1.k + pos) ds).length = cs.length ∧ ∀ i (h1 : i < (thawL (E1.k + pos) ds).length) (h2 : i < vs.length), Rep (E1.import (E'.without FZ) IDS) (thawL (E1.k + pos) ds)[i] vs[i]
  | [], [], ids, fz, vs, pos, h, hl, hr, hfz, hids, hpos, ho => by
    obtain ⟨rfl, rfl⟩ := h
    exact ⟨⟨rfl, fun j h1 => absurd h1 (by simp)⟩, rfl, fun i h1 => absurd h1 (by simp [thawL])⟩
  | a :: r, b :: s, ids, fz, vs, pos, h, hl, hr, hfz, hids, hpos, ho => by
    obtain ⟨i1, i2, f1, f2, rfl, rfl, h1, h2⟩ := h
    match vs, hl, hr with
    | v :: vs, hl, hr =>
      have k1 := expC_thaw (pos := pos) hg hOk h1 (hr 0 (by simp) (by simp)) (fun i hi => hfz i (by simp [hi])) (fun i hi => hids i (by simp [hi])) (fun j hj => by
        rw [hpos j (by simp; omega), List.getElem?_append_left hj]) ho.1
      have k2 := expL_thaw hg hOk r s i2 f2 vs (pos + i1.length) h2 (by simpa using hl) (fun i g1 g2 => hr (i + 1) (by simpa using g1) (by simpa using g2)) (fun i hi => hfz i (by simp [hi])) (fun i hi => hids i (by simp [hi])) (fun j hj => by
        rw [Nat.add_assoc, hpos (i1.length + j) (by simp; omega), List.getElem?_append_right (by omega)]
        congr 1; omega) ho.2
      have e : E1.k + (pos + i1.length) = E1.k + pos + (blksC b).length := by rw [k1.1.1]; omega
      rw [e] at k2
      refine ⟨⟨by simp [blksL, k1.1.1, k2.1.1], fun j g1 g2 => ?_⟩, by simp [thawL, k2.2.1], fun i g1 g2 => ?_⟩
      · have hl1 := k1.1.1
        by_cases hj : j < i1.length
        · simp only [blksL]
          rw [List.getElem_append_left hj, List.getElem_append_left (by omega)]
          exact k1.1.2 j hj (by omega)
        · simp only [blksL] at g2 ⊢
          simp only [List.length_append] at g1 g2
          rw [List.getElem_append_right (by omega), List.getElem_append_right (by omega)]
          have := k2.1.2 (j - i1.length) (by omega) (by rw [← k2.1.1]; omega)
          simp only [hl1] at this ⊢
          exact this
      · cases i with
        | zero => exact k1.2
        | succ i => exact k2.2.2 i (by simpa [thawL] using g1) (by simpa using g2)
    | [], hl, _ => simp at hl
  | [], _ :: _, _, _, _, _, h, _, _, _, _, _, _ => h.elim
  | _ :: _, [], _, _, _, _, h, _, _, _, _, _, _ => h.elim

theorem expA_thaw (hg : Good w0 E' M') (hOk : ∀ a v, Ok a → Rep (E'.without FZ) a v → Rep (E1.import (E'.without FZ) IDS) a v)
    {a b : AV} {ids fz : List Nat} {v : Value} {pos : Nat} (h : ExpA M' a b ids fz) (hr : Rep E' a v) (hfz : ∀ i ∈ fz, i ∈ FZ) (hids : ∀ i ∈ ids, i ∉ FZ) (hpos : ∀ j, j < ids.length → IDS[pos + j]? = ids[j]?) (ho : OkA Ok b) :
    (ids.length = (blksA b).length ∧ ∀ j (h1 : j < ids.length) (h2 : j < (blksA b).length), (M'.without FZ).get ids[j] = some (blksA b)[j]) ∧ Rep (E1.import (E'.without FZ) IDS) (thawA (E1.k + pos) b) v := by
  cases a with
  | g cs =>
    cases b with
    | g ds =>
      cases hr with
      | g _ ys hl hr =>
        have := expL_thaw (pos := pos) hg hOk cs ds ids fz ys.toList h (by simpa using hl) (fun i h1 h2 => by simpa using hr i h1 (by simpa using h2)) hfz hids hpos ho
        refine ⟨this.1, .g _ ys (by rw [this.2.1]; exact hl) (fun i h1 h2 => by have := this.2.2 i h1 (by simpa using h2); rw [Array.getElem_toList] at this; exact this)⟩
    | _ => 
      have := h
      simp only [ExpA, ExpC] at this
      obtain ⟨t1, _⟩ := this
      first | (cases t1.g; done) | (cases t1.t; done) | (cases t1.toG; done) | (cases t1.toT; done)
  | _ =>
    cases b with
    | g ds =>
      have := h
      simp only [ExpA, ExpC] at this
      obtain ⟨t1, _⟩ := this
      first | (cases t1.g; done) | (cases t1.t; done) | (cases t1.toG; done) | (cases t1.toT; done)
    | _ =>
      have h' := h
      simp only [ExpA] at h'
      exact expC_thaw hg hOk h' hr hfz hids hpos ho

theorem expLA_thaw (hg : Good w0 E' M') (hOk : ∀ a v, Ok a → Rep (E'.without FZ) a v → Rep (E1.import (E'.without FZ) IDS) a v) :
    ∀ (cs ds : List AV) (ids fz : List Nat) (vs : List Value) (pos : Nat), ExpLA M' cs ds ids fz → vs.length = cs.length → (∀ i (h1 : i < cs.length) (h2 : i < vs.length), Rep E' cs[i] vs[i]) →
      (∀ i ∈ fz, i ∈ FZ) → (∀ i ∈ ids, i ∉ FZ) → (∀ j, j < ids.length → IDS[pos + j]? = ids[j]?) → OkLA Ok ds →
      (ids.length = (blksLA ds).length ∧ ∀ j (h1 : j < ids.length) (h2 : j < (blksLA ds).length), (M'.without FZ).get ids[j] = some (blksLA ds)[j]) ∧
      (thawLA (E1.k + pos) ds).length = cs.length ∧ ∀ i (h1 : i < (thawLA (E1.k + pos) ds).length) (h2 : i < vs.length), Rep (E1.import (E'.without FZ) IDS) (thawLA (E1.k + pos) ds)[i] vs[i]
  | [], [], ids, fz, vs, pos, h, hl, hr, hfz, hids, hpos, ho => by
    obtain ⟨rfl, rfl⟩ := h
    exact ⟨⟨rfl, fun j h1 => absurd h1 (by simp)⟩, rfl, fun i h1 => absurd h1 (by simp [thawLA])⟩
  | a :: r, b :: s, ids, fz, vs, pos, h, hl, hr, hfz, hids, hpos, ho => by
    obtain ⟨i1, i2, f1, f2, rfl, rfl, h1, h2⟩ := h
    match vs, hl, hr with
    | v :: vs, hl, hr =>
      have k1 := expA_thaw (pos := pos) hg hOk h1 (hr 0 (by simp) (by simp)) (fun i hi => hfz i (by simp [hi])) (fun i hi => hids i (by simp [hi])) (fun j hj => by
        rw [hpos j (by simp; omega), List.getElem?_append_left hj]) ho.1
      have k2 := expLA_thaw hg hOk r s i2 f2 vs (pos + i1.length) h2 (by simpa using hl) (fun i g1 g2 => hr (i + 1) (by simpa using g1) (by simpa using g2)) (fun i hi => hfz i (by simp [hi])) (fun i hi => hids i (by simp [hi])) (fun j hj => by
        rw [Nat.add_assoc, hpos (i1.length + j) (by simp; omega), List.getElem?_append_right (by omega)]
        congr 1; omega) ho.2
      have e : E1.k + (pos + i1.length) = E1.k + pos + (blksA b).length := by rw [k1.1.1]; omega
      rw [e] at k2
      refine ⟨⟨by simp [blksLA, k1.1.1, k2.1.1], fun j g1 g2 => ?_⟩, by simp [thawLA, k2.2.1], fun i g1 g2 => ?_⟩
      · have hl1 := k1.1.1
        by_cases hj : j < i1.length
        · simp only [blksLA]
          rw [List.getElem_append_left hj, List.getElem_append_left (by omega)]
          exact k1.1.2 j hj (by omega)
        · simp only [blksLA] at g2 ⊢
          simp only [List.length_append] at g1 g2
          rw [List.getElem_append_right (by omega), List.getElem_append_right (by omega)]
          have := k2.1.2 (j - i1.length) (by omega) (by rw [← k2.1.1]; omega)
          simp only [hl1] at this ⊢
          exact this
      · cases i with
        | zero => exact k1.2
        | succ i => exact k2.2.2 i (by simpa [thawLA] using g1) (by simpa using g2)
    | [], hl, _ => simp at hl
  | [], _ :: _, _, _, _, _, h, _, _, _, _, _, _ => h.elim
  | _ :: _, [], _, _, _, _, h, _, _, _, _, _, _ => h.elim

theorem expR_thaw (hg : Good w0 E' M') (hOk : ∀ a v, Ok a → Rep (E'.without FZ) a v → Rep (E1.import (E'.without FZ) IDS) a v)
    {a b : AV} {ids fz : List Nat} {v : Value} (h : ExpR M' a b ids fz) (hr : Rep E' a v) (hfz : ∀ i ∈ fz, i ∈ FZ) (hids : ∀ i ∈ ids, i ∉ FZ) (hpos : ∀ j, j < ids.length → IDS[0 + j]? = ids[j]?) (ho : OkR Ok b) :
    (ids.length = (blks b).length ∧ ∀ j (h1 : j < ids.length) (h2 : j < (blks b).length), (M'.without FZ).get ids[j] = some (blks b)[j]) ∧ Rep (E1.import (E'.without FZ) IDS) (thaw (E1.k + 0) b) v := by
  cases a with
  | t cs =>
    cases b with
    | t ds =>
      cases hr with
      | t _ ys hl hr =>
        have := expLA_thaw (pos := 0) hg hOk cs ds ids fz ys.toList h (by simpa using hl) (fun i h1 h2 => by simpa using hr i h1 (by simpa using h2)) hfz hids hpos ho
        refine ⟨this.1, .t _ ys (by rw [this.2.1]; exact hl) (fun i h1 h2 => by have := this.2.2 i h1 (by simpa using h2); rw [Array.getElem_toList] at this; exact this)⟩
    | _ =>
      have := h
      simp only [ExpR, ExpA, ExpC] at this
      obtain ⟨t1, _⟩ := this
      first | (cases t1.g; done) | (cases t1.t; done) | (cases t1.toG; done) | (cases t1.toT; done)
  | _ =>
    cases b with
    | t ds =>
      have := h
      simp only [ExpR, ExpA, ExpC] at this
      obtain ⟨t1, _⟩ := this
      first | (cases t1.g; done) | (cases t1.t; done) | (cases t1.toG; done) | (cases t1.toT; done)
    | _ =>
      have h' := h
      simp only [ExpR] at h'
      exact expA_thaw hg hOk h' hr hfz hids hpos ho
end
end Go.Ab
