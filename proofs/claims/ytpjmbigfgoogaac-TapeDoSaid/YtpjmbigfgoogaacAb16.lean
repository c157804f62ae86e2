/- Calls by contract: arguments and results are data. -/
import Derived.Test.YtpjmbigfgoogaacAb15
set_option linter.unusedVariables false
set_option linter.unusedSimpArgs false
set_option linter.constructorNameAsVariable false
namespace Go.Ab
open Go Go.RowKit

/-- No slice may be told as one of no elements. -/
def Weak1 : AV → AV → Prop
  | .c (.slice none 0 0), .l _ [] => True
  | a, b => a = b
theorem Weak1.rep {E : Env} {a b : AV} {v : Value} (h : Weak1 a b) (hr : Rep E a v) : Rep E b v := by
  unfold Weak1 at h
  split at h
  · cases hr; exact .l0 _ _ _
  · subst h; exact hr
theorem Weak1.g {cs : List AV} {b : AV} (h : Weak1 (.g cs) b) : AV.g cs = b := by
  rwa [Weak1.eq_2 _ _ (by intro sz h1 h2; cases h1)] at h
theorem Weak1.t {cs : List AV} {b : AV} (h : Weak1 (.t cs) b) : AV.t cs = b := by
  rwa [Weak1.eq_2 _ _ (by intro sz h1 h2; cases h1)] at h
theorem Weak1.toG {cs : List AV} {a : AV} (h : Weak1 a (.g cs)) : a = .g cs := by
  rwa [Weak1.eq_2 _ _ (by intro sz h1 h2; cases h2)] at h
theorem Weak1.toT {cs : List AV} {a : AV} (h : Weak1 a (.t cs)) : a = .t cs := by
  rwa [Weak1.eq_2 _ _ (by intro sz h1 h2; cases h2)] at h
theorem Weak1.toO {T : TypeId} {sz : Nat} {xs : List AV} {a : AV} (h : Weak1 a (.o T sz xs)) : a = .o T sz xs := by
  rwa [Weak1.eq_2 _ _ (by intro sz h1 h2; cases h2)] at h
theorem Weak1.refl (a : AV) : Weak1 a a := by
  rw [Weak1.eq_2 _ _ (by intro sz h1 h2; rw [h1] at h2; cases h2)]
def WeakL : List AV → List AV → Prop
  | [], [] => True
  | a :: r, b :: s => Weak1 a b ∧ WeakL r s
  | _, _ => False
theorem WeakL.len : ∀ {l m : List AV}, WeakL l m → l.length = m.length
  | [], [], _ => rfl
  | a :: r, b :: s, h => by simp [h.2.len]
  | [], _ :: _, h => h.elim
  | _ :: _, [], h => h.elim
theorem WeakL.get : ∀ {l m : List AV}, WeakL l m → ∀ i (h1 : i < l.length) (h2 : i < m.length), Weak1 l[i] m[i]
  | a :: r, b :: s, h, 0, _, _ => h.1
  | a :: r, b :: s, h, i + 1, h1, h2 => h.2.get i (by simpa using h1) (by simpa using h2)
  | [], [], _, i, h1, _ => absurd h1 (by simp)
  | [], _ :: _, h, _, _, _ => h.elim
  | _ :: _, [], h, _, _, _ => h.elim
theorem WeakL.refl : ∀ l, WeakL l l
  | [] => trivial
  | a :: r => ⟨.refl a, .refl r⟩
def Weak : AV → AV → Prop
  | .g cs, .g ds => WeakL cs ds
  | a, b => Weak1 a b
theorem Weak.rep {E : Env} {a b : AV} {v : Value} (h : Weak a b) (hr : Rep E a v) : Rep E b v := by
  unfold Weak at h
  split at h
  · cases hr with
    | g _ ys hl hr => exact .g _ ys (by rw [← h.len]; exact hl) fun i h1 h2 => (h.get i (by rw [h.len]; exact h1) h1).rep (hr i _ h2)
  · exact h.rep hr

/-- What a function hands back, as data: a block of its own that goes to the caller (o), one that nobody writes any more (l). -/
def ExpC (M : Mem) : AV → AV → List Nat → List Nat → Prop
  | .s id off n, .o T sz xs, ids, fz => off = 0 ∧ ids = [id] ∧ fz = [] ∧ M.get id = some ⟨T, sz, xs⟩ ∧ n = xs.length ∧ PureL xs
  | .s id off n, .l sz xs, ids, fz => ids = [] ∧ fz = [id] ∧ blkK M id (off + n) fun blk => blk.sz = sz ∧ blk.xs.drop off = xs ∧ PureL blk.xs
  | a, b, ids, fz => Weak1 a b ∧ Under 0 b ∧ ids = [] ∧ fz = []
def ExpL (M : Mem) : List AV → List AV → List Nat → List Nat → Prop
  | [], [], ids, fz => ids = [] ∧ fz = []
  | a :: r, b :: s, ids, fz => ∃ i1 i2 f1 f2, ids = i1 ++ i2 ∧ fz = f1 ++ f2 ∧ ExpC M a b i1 f1 ∧ ExpL M r s i2 f2
  | _, _, _, _ => False
def ExpA (M : Mem) : AV → AV → List Nat → List Nat → Prop
  | .g cs, .g ds, ids, fz => ExpL M cs ds ids fz
  | a, b, ids, fz => ExpC M a b ids fz
def ExpLA (M : Mem) : List AV → List AV → List Nat → List Nat → Prop
  | [], [], ids, fz => ids = [] ∧ fz = []
  | a :: r, b :: s, ids, fz => ∃ i1 i2 f1 f2, ids = i1 ++ i2 ∧ fz = f1 ++ f2 ∧ ExpA M a b i1 f1 ∧ ExpLA M r s i2 f2
  | _, _, _, _ => False
def ExpR (M : Mem) : AV → AV → List Nat → List Nat → Prop
  | .t cs, .t ds, ids, fz => ExpLA M cs ds ids fz
  | a, b, ids, fz => ExpA M a b ids fz
def Exp (M : Mem) (a b : AV) : Prop := ∃ ids fz, ExpR M a b ids fz ∧ ids.Nodup ∧ ∀ i ∈ ids, i ∉ fz

/-- The contract of a function on data. -/
def PCall (P : Program) (f : FuncId) (args : List AV) (res : AV) : Prop := ICall P f args ⟨[], 0⟩ fun a M => Exp M a res

def thawC (k : Nat) : AV → AV
  | .o _ _ xs => .s k 0 xs.length
  | a => a
def blksC : AV → List Blk
  | .o T sz xs => [⟨T, sz, xs⟩]
  | _ => []
def thawL : Nat → List AV → List AV
  | _, [] => []
  | k, a :: r => thawC k a :: thawL (k + (blksC a).length) r
def blksL : List AV → List Blk
  | [] => []
  | a :: r => blksC a ++ blksL r
def thawA (k : Nat) : AV → AV
  | .g cs => .g (thawL k cs)
  | a => thawC k a
def blksA : AV → List Blk
  | .g cs => blksL cs
  | a => blksC a
def thawLA : Nat → List AV → List AV
  | _, [] => []
  | k, a :: r => thawA k a :: thawLA (k + (blksA a).length) r
def blksLA : List AV → List Blk
  | [] => []
  | a :: r => blksA a ++ blksLA r
def thaw (k : Nat) : AV → AV
  | .t vs => .t (thawLA k vs)
  | a => thawA k a
def blks : AV → List Blk
  | .t vs => blksLA vs
  | a => blksA a
def Mem.adds (M : Mem) : List Blk → Mem
  | [] => M
  | b :: r => (newMem M b).adds r
theorem adds_k (M : Mem) : ∀ bs, (M.adds bs).k = M.k + bs.length
  | [] => rfl
  | b :: r => by
    have := adds_k (newMem M b) r
    simp only [Mem.adds, this, List.length_cons]
    simp only [newMem]; omega
theorem adds_get (M : Mem) : ∀ bs i, (M.adds bs).get i = if i < M.k then M.get i else (if i - M.k < bs.length then bs[i - M.k]? else M.get i)
  | [], i => by simp [Mem.adds]
  | b :: r, i => by
    have := adds_get (newMem M b) r i
    simp only [Mem.adds, this]
    have hk : (newMem M b).k = M.k + 1 := rfl
    have hg : (newMem M b).get i = if M.k = i then some b else M.get i := by simp [newMem, Mem.get, assoc_insert]
    rw [hk, hg]
    by_cases h1 : i < M.k
    · rw [if_pos (by omega), if_neg (by omega), if_pos h1]
    · by_cases h2 : M.k = i
      · subst h2
        simp
      · rw [if_neg (by omega), if_neg h1]
        simp only [h2, if_false, List.length_cons]
        have : i - M.k = (i - (M.k + 1)) + 1 := by omega
        by_cases h3 : i - (M.k + 1) < r.length
        · rw [if_pos h3, if_pos (by omega), this, List.getElem?_cons_succ]
        · rw [if_neg h3, if_neg (by omega)]

/-- Data without memory. -/
inductive Flat : AV → Prop where
  | c (v : Value) : Flat (.c v)
  | g (cs : List AV) (h : ∀ i (hi : i < cs.length), Flat cs[i]) : Flat (.g cs)
  | t (cs : List AV) (h : ∀ i (hi : i < cs.length), Flat cs[i]) : Flat (.t cs)
theorem Rep.flat {E E' : Env} {a : AV} {v : Value} (h : Rep E a v) (hf : Flat a) : Rep E' a v := by
  induction h with
  | c v h => exact .c v h
  | g cs ys h hr ih => cases hf with | g _ hf => exact .g cs ys h fun i h1 h2 => ih i h1 h2 (hf i h1)
  | t cs ys h hr ih => cases hf with | t _ hf => exact .t cs ys h fun i h1 h2 => ih i h1 h2 (hf i h1)
  | _ => cases hf
theorem Rep.pure {E E' : Env} (hz : ∀ b, E.Z b → E'.Z b ∧ E'.w.heap[b]? = E.w.heap[b]?) {a : AV} {v : Value} (hr : Rep E a v) (hu : Under 0 a) : Rep E' a v := by
  induction hr with
  | c v h => exact .c v h
  | x v => exact .x v
  | g cs ys h hr ih => cases hu with | g _ hu => exact .g cs ys h fun i h1 h2 => ih i h1 h2 (hu i h1)
  | t cs ys h hr ih => cases hu with | t _ hu => exact .t cs ys h fun i h1 h2 => ih i h1 h2 (hu i h1)
  | f fn cs ys h hr ih => cases hu with | f _ _ hu => exact .f fn cs ys h fun i h1 h2 => ih i h1 h2 (hu i h1)
  | l sz xs b off cap y hcap hb hs hc hr ih =>
    cases hu with | l _ _ hu =>
    refine .l sz xs b off cap y hcap (hz b hb).1 hs (fun i j hi hj => ?_) fun i hi j hj => ih i hi j hj (hu i hi j hj)
    rw [cell_same (hz b hb).2]; exact hc i j hi hj
  | l0 sz A cap => exact .l0 sz A cap
  | e cs b off y hb hc hr ih =>
    cases hu with | e _ hu =>
    refine .e cs b off y (hz b hb).1 (fun j hj => ?_) fun j hj => ih j hj (hu j hj)
    rw [cell_same (hz b hb).2]; exact hc j hj
  | p id i j n a hk h => cases hu; omega
  | s id off n A cap hk h => cases hu; omega

/-- Blocks of a callee's come to the caller. E1: the caller's moment ahead of the call (what it gives up is given up); E': the callee's end. -/
def Env.import (E1 E' : Env) (ids : List Nat) : Env := ⟨E'.w, fun i => if i < E1.k then E1.ad i else (ids[i - E1.k]?).bind E'.ad, E1.k + ids.length, E1.hid⟩
theorem Good.lt_b {w0 : World} {E : Env} {M : Mem} (hg : Good w0 E M) {i : Nat} {q : At} (hq : E.ad i = some q) (hcp : 0 < q.cp) : w0.heap.size ≤ q.b ∧ q.b < E.w.heap.size := by
  cases hM : M.get i with
  | none => rw [hg.gone i hM] at hq; cases hq
  | some blk =>
    obtain ⟨q1, b1, _, _, _, b5⟩ := hg.held i blk hM
    rw [hq] at b1; cases b1
    exact ⟨(b5 hcp).1, backed_lt (b5 hcp).2⟩
theorem Good.import {w0 : World} {E1 E' : Env} {M1 M' : Mem} (hg : Good w0 E1 M1) (hc : Good E1.w E' M') (ids : List Nat) (bs : List Blk) (hn : ids.Nodup) (hlen : ids.length = bs.length)
    (hb : ∀ j (h1 : j < ids.length) (h2 : j < bs.length), M'.get ids[j] = some bs[j])
    (hmove : ∀ b ∈ bs, ∀ i (hi : i < b.xs.length), ∀ j (hj : j < b.xs[i].cells.length), ∀ v, Rep E' b.xs[i].cells[j] v → Rep (E1.import E' ids) b.xs[i].cells[j] v) :
    Good w0 (E1.import E' ids) (M1.adds bs) ∧ Later E1 (E1.import E' ids) := by
  have hw := hc.below
  have hnew : ∀ i q, E1.k ≤ i → (E1.import E' ids).ad i = some q → ∃ h : i - E1.k < ids.length, E'.ad ids[i - E1.k] = some q := fun i q hi hq => by
    simp only [Env.import, if_neg (Nat.not_lt.2 hi)] at hq
    cases h : ids[i - E1.k]? with
    | none => rw [h] at hq; cases hq
    | some id =>
      rw [h] at hq
      obtain ⟨h1, h2⟩ := List.getElem?_eq_some_iff.1 h
      exact ⟨h1, by rw [h2]; exact hq⟩
  have hold : ∀ i, i < E1.k → (E1.import E' ids).ad i = E1.ad i := fun i hi => by simp only [Env.import, if_pos hi]
  have hl : Later E1 (E1.import E' ids) := by
    refine ⟨fun b hb => ⟨⟨Nat.lt_of_lt_of_le hb.1 hw.size, hb.2.1, fun i q hq hcp => ?_⟩, hw.block b hb.1⟩, by show E1.k ≤ E1.k + ids.length; omega, fun i hi q hq => ?_, rfl⟩
    · by_cases hi : i < E1.k
      · rw [hold i hi] at hq; exact hb.2.2 i q hq hcp
      · obtain ⟨_, h2⟩ := hnew i q (by omega) hq
        have := (hc.lt_b h2 hcp).1
        have := hb.1
        omega
    · rw [hold i hi] at hq; exact ⟨q, hq, Nat.le_refl _, fun _ => rfl⟩
  refine ⟨⟨hg.below.trans (hw.mono hg.below.size), by rw [adds_k, hg.k, ← hlen]; rfl, fun i q hq => ?_, fun i hi => ?_, fun i blk hi => ?_, fun i q hq hcp => ?_, hg.old, fun i i' q1 q2 hne h1 h2 hc1 hc2 => ?_⟩, hl⟩
  · show i < E1.k + ids.length
    by_cases hi : i < E1.k
    · omega
    · obtain ⟨h1, _⟩ := hnew i q (by omega) hq; omega
  · rw [adds_get] at hi
    by_cases h : i < M1.k
    · rw [if_pos h] at hi
      rw [hold i (by rw [← hg.k]; exact h)]
      exact hg.gone i hi
    · rw [if_neg h] at hi
      by_cases h2 : i - M1.k < bs.length
      · rw [if_pos h2, List.getElem?_eq_getElem h2] at hi; cases hi
      · cases hq : (E1.import E' ids).ad i with
        | none => rfl
        | some q =>
          obtain ⟨h3, _⟩ := hnew i q (by rw [← hg.k]; omega) hq
          rw [← hg.k] at h3; omega
  · rw [adds_get] at hi
    by_cases h : i < M1.k
    · rw [if_pos h] at hi
      obtain ⟨q, h1, h2, h3, h4, h5⟩ := hg.held i blk hi
      exact ⟨q, by rw [hold i (by rw [← hg.k]; exact h)]; exact h1, h2, h3, h4, fun hcp => ⟨(h5 hcp).1, ((h5 hcp).2).later hl (hw.block _ (backed_lt (h5 hcp).2))⟩⟩
    · rw [if_neg h] at hi
      by_cases h2 : i - M1.k < bs.length
      · rw [if_pos h2, List.getElem?_eq_getElem h2] at hi
        injection hi with hi
        have h3 : i - E1.k < ids.length := by rw [← hg.k, hlen]; exact h2
        have hke : i - E1.k = i - M1.k := by rw [hg.k]
        have hget := hb (i - E1.k) h3 (by rw [← hlen]; exact h3)
        simp only [hke] at hget h3
        rw [hi] at hget
        obtain ⟨q, a1, a2, a3, a4, a5⟩ := hc.held _ _ hget
        refine ⟨q, ?_, a2, a3, a4, fun hcp => ⟨Nat.le_trans hg.below.size (a5 hcp).1, ?_⟩⟩
        · simp only [Env.import]
          rw [if_neg (by rw [← hg.k]; exact h), hke, List.getElem?_eq_getElem h3]
          exact a1
        · obtain ⟨c0, arr, c1, c2, c3⟩ := (a5 hcp).2
          refine ⟨c0, arr, c1, c2, fun i' hi' => ⟨(c3 i' hi').1, fun j hj => ?_⟩⟩
          obtain ⟨y, d1, d2, d3⟩ := (c3 i' hi').2 j hj
          exact ⟨y, d1, d2, hmove blk (by rw [← hi]; exact List.getElem_mem _) i' hi' j hj y d3⟩
      · rw [if_neg h2] at hi
        obtain ⟨q, h1, _⟩ := hg.held i blk hi
        have := hg.lt _ _ h1
        rw [hg.k] at h; omega
  · by_cases hi : i < E1.k
    · rw [hold i hi] at hq; exact hg.hid i q hq hcp
    · obtain ⟨_, h2⟩ := hnew i q (by omega) hq
      intro hh
      have h3 := hg.old _ hh
      have h4 := (hc.lt_b h2 hcp).1
      have := hg.below.size
      omega
  · by_cases hi : i < E1.k
    · rw [hold i hi] at h1
      by_cases hi' : i' < E1.k
      · rw [hold i' hi'] at h2
        exact hg.inj i i' q1 q2 hne h1 h2 hc1 hc2
      · obtain ⟨_, g2⟩ := hnew i' q2 (by omega) h2
        have := (hg.lt_b h1 hc1).2
        have := (hc.lt_b g2 hc2).1
        omega
    · obtain ⟨e1, g1⟩ := hnew i q1 (by omega) h1
      by_cases hi' : i' < E1.k
      · rw [hold i' hi'] at h2
        have := (hg.lt_b h2 hc2).2
        have := (hc.lt_b g1 hc1).1
        omega
      · obtain ⟨e2, g2⟩ := hnew i' q2 (by omega) h2
        refine hc.inj _ _ q1 q2 (fun e => ?_) g1 g2 hc1 hc2
        have := (List.getElem_inj hn).1 e
        omega

/-- Behind a call: the result, as it comes to the caller. -/
structure Comes2 (E' : Env) (M' : Mem) (ids : List Nat) (bs : List Blk) : Prop where
  len : ids.length = bs.length
  get : ∀ j (h1 : j < ids.length) (h2 : j < bs.length), M'.get ids[j] = some bs[j]
theorem Comes2.append {E' : Env} {M' : Mem} {i1 i2 : List Nat} {b1 b2 : List Blk} (h1 : Comes2 E' M' i1 b1) (h2 : Comes2 E' M' i2 b2) : Comes2 E' M' (i1 ++ i2) (b1 ++ b2) := by
  refine ⟨by simp [h1.len, h2.len], fun j g1 g2 => ?_⟩
  have hl := h1.len
  by_cases h : j < i1.length
  · rw [List.getElem_append_left h, List.getElem_append_left (by omega)]; exact h1.get _ _ _
  · rw [List.getElem_append_right (by omega), List.getElem_append_right (by omega)]
    have := h2.get (j - i1.length) (by simp at g1; omega) (by rw [← h2.len]; simp at g1; omega)
    simp only [hl] at this ⊢
    exact this
end Go.Ab
