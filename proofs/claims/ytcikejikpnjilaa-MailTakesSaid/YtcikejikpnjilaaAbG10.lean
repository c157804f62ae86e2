/- A row of the call's own is appended to, and read again behind it: the two cases of its room. A call that reads rows of the caller's own, which stay the caller's: of rows that come back their lengths alone are known. Behind a piece of code: full rows and windows are read as data. -/
import Derived.Test.YtcikejikpnjilaaAbG9
set_option linter.unusedVariables false
set_option linter.constructorNameAsVariable false
set_option linter.unusedSimpArgs false
namespace Go.Ab
open Go Go.RowKit

theorem RepS.see {E : Env} {s : Slots} {tmps : Array Value} (h : RepS E s tmps) {t : Nat} {a : AV} (hr : Rep E a (tmps.getD t undef)) : RepS E (insert s t a) tmps := by
  intro u
  unfold Slots.get
  rw [assoc_insert]
  by_cases e : t = u
  · subst e; simpa using hr
  · rw [if_neg e]; exact h u
/-- No room: a full row, given up. Room: a window, and the block. -/
theorem room_rule {P : Program} {c : Code} {K : Exit → ASt → Prop} {sl : Slots} {m : Mem} {N : Nat} (t id n : Nat) (T : TypeId) (sz : Nat) (xs : List AV) (ht : Slots.get sl t = .s id 0 n) (hm : m.get id = some ⟨T, sz, xs⟩)
    (hn : n = xs.length) (h0 : 0 < n) (hp : PureL xs)
    (h1 : ACode P c K ⟨insert sl t (.u sz xs), m.drop id, N⟩) (h2 : ACode P c K ⟨insert sl t (.w id n (n + 1)), m, N⟩) : ACode P c K ⟨sl, m, N⟩ := fun ro w0 E D a hst => by
  have hr : Rep E (.s id 0 n) (a.tmps.getD t undef) := by rw [← ht]; exact hst.r t
  have hg := hst.g
  obtain ⟨q, q1, q2, q3, q4, q5⟩ := hg.held id _ hm
  simp only at q2 q3
  have hr2 := rep_viewC hg (ids := [id]) hr ⟨_, hm, by simp; omega, hp⟩ (fun j hj => by simpa [idsC] using hj)
  simp only [viewC, hm, List.drop_zero] at hr2
  have hsee := (hst.r)
  generalize hv : a.tmps.getD t undef = v at hr hr2
  cases hr with
  | s _ _ _ A cap hk hrel =>
  obtain ⟨g1, g2⟩ := hrel q q1
  obtain ⟨g3, g4⟩ := g2 (by omega)
  by_cases hc : cap = n
  · subst hc
    obtain ⟨w1, w2⟩ := hg.without [id]
    refine Code.wpIn_mono (fun _ _ _ ⟨E', s', a1, a2, a3, a4⟩ => ⟨E', s', a1, a2, w2.trans a3, a4⟩) (h1 ro w0 (E.without [id]) D a ⟨w1, (hst.r.later w2).see (t := t) ?_, hst.n, hst.d⟩)
    rw [hv]
    have : Rep (E.without [id]) (.u sz xs) (.slice A xs.length xs.length) := .u sz xs A (by rw [hn] at hr2; exact hr2)
    rw [← hn] at this
    exact this
  · have hr3 : Rep E (.w id n (n + 1)) (.slice A n cap) := .w id n (n + 1) A cap hk fun q' hq' => by
      rw [q1] at hq'; cases hq'
      refine ⟨by omega, fun _ => ⟨by omega, by omega, by omega, ?_⟩⟩
      have := g4 (by omega)
      simpa using this
    exact h2 ro w0 E D a ⟨hg, hst.r.see (t := t) (by rw [hv]; exact hr3), hst.n, hst.d⟩
end Go.Ab

set_option linter.unusedVariables false
set_option linter.constructorNameAsVariable false
set_option linter.unusedSimpArgs false
namespace Go.Ab
open Go Go.RowKit

def staleC (k : Nat) : AV → AV
  | .c v => .c v
  | .l _ xs => .s k 0 xs.length
  | _ => .x
def staleA (k : Nat) : AV → AV
  | .g cs => .g (cs.map (staleC k))
  | a => staleC k a
def stale (k : Nat) : AV → AV
  | .t vs => .t (vs.map (staleA k))
  | a => staleA k a
/-- A name that nothing bears. -/
def Mem.next (M : Mem) : Mem := ⟨M.l, M.k + 1⟩
def Env.next (E : Env) : Env := ⟨E.w, E.ad, E.k + 1, E.hid⟩
theorem Good.next {w0 : World} {E : Env} {M : Mem} (hg : Good w0 E M) : Good w0 E.next M.next ∧ Later E E.next ∧ E.next.ad M.k = none := by
  have hl : Later E E.next := ⟨fun b h => ⟨h, rfl⟩, Nat.le_succ _, fun i _ q hq => ⟨q, hq, Nat.le_refl _, fun _ => rfl, fun _ _ => ⟨rfl, rfl⟩⟩, rfl, fun _ _ => rfl⟩
  refine ⟨⟨hg.below, by show M.k + 1 = E.k + 1; rw [hg.k], fun id q hq => Nat.lt_succ_of_lt (hg.lt id q hq), hg.gone, fun i blk hi => ?_, hg.hid, hg.old, hg.inj⟩, hl, ?_⟩
  · obtain ⟨q, h1, h2, h3, h4, h5⟩ := hg.held i blk hi
    exact ⟨q, h1, h2, h3, h4, fun hcp => ⟨(h5 hcp).1, ((h5 hcp).2).later hl rfl⟩⟩
  · show E.ad M.k = none
    cases hq : E.ad M.k with
    | none => rfl
    | some q => have := hg.lt _ _ hq; have := hg.k; omega
theorem staleC_rep {E E' : Env} {k : Nat} {a : AV} {v : Value} (hr : Rep E a v) (hk : k < E'.k) (hn : E'.ad k = none) : Rep E' (staleC k a) v := by
  cases hr with
  | c v h => exact .c v h
  | l sz xs b off cap y hcap hz hs hc hr => exact .s _ _ _ _ _ hk fun q hq => by rw [hn] at hq; cases hq
  | l0 sz A cap => exact .s _ _ _ _ _ hk fun q hq => by rw [hn] at hq; cases hq
  | _ => exact .x _
theorem expC_stale {E E' : Env} {M : Mem} {k : Nat} {a b : AV} {ids fz : List Nat} {v : Value} (h : ExpC M a b ids fz) (hr : Rep E a v) (hk : k < E'.k) (hn : E'.ad k = none) : Rep E' (staleC k b) v := by
  have hpure : Weak1 a b → Rep E' (staleC k b) v := fun hw => staleC_rep (hw.rep hr) hk hn
  cases a with
  | s id off n =>
    cases b with
    | o T sz xs => exact .x _
    | l sz xs =>
      obtain ⟨rfl, rfl, blk, hM, hn', rfl, rfl, hp⟩ := h
      cases hr with
      | s _ _ _ A cap hk' hh =>
        have : (blk.xs.drop off).length = n := by rw [List.length_drop]; omega
        show Rep E' (.s k 0 (blk.xs.drop off).length) _
        rw [this]
        exact .s _ _ _ _ _ hk fun q hq => by rw [hn] at hq; cases hq
    | _ => exact hpure h.1
  | _ =>
    cases b with
    | o T sz xs => exact .x _
    | _ => exact hpure h.1
theorem expL_stale {E E' : Env} {M : Mem} {k : Nat} (hk : k < E'.k) (hn : E'.ad k = none) : ∀ {cs ds : List AV} {ids fz : List Nat} {vs : List Value}, ExpL M cs ds ids fz → vs.length = cs.length → (∀ i (h1 : i < cs.length) (h2 : i < vs.length), Rep E cs[i] vs[i]) →
    (ds.map (staleC k)).length = vs.length ∧ ∀ i (h1 : i < (ds.map (staleC k)).length) (h2 : i < vs.length), Rep E' (ds.map (staleC k))[i] vs[i]
  | [], [], ids, fz, [], h, hl, hr => ⟨rfl, fun i h1 => absurd h1 (by simp)⟩
  | [], [], ids, fz, _ :: _, h, hl, hr => by simp at hl
  | a :: r, b :: s, ids, fz, [], h, hl, hr => by simp at hl
  | a :: r, b :: s, ids, fz, v :: vs, h, hl, hr => by
    obtain ⟨i1, i2, f1, f2, rfl, rfl, h1, h2⟩ := h
    have k1 := expC_stale (E' := E') (k := k) h1 (hr 0 (by simp) (by simp)) hk hn
    obtain ⟨k2, k3⟩ := expL_stale hk hn h2 (by simpa using hl) (fun i g1 g2 => hr (i + 1) (by simpa using g1) (by simpa using g2))
    refine ⟨by simpa using k2, fun i g1 g2 => ?_⟩
    cases i with
    | zero => exact k1
    | succ i => exact k3 i (by simpa using g1) (by simpa using g2)
  | [], _ :: _, _, _, _, h, _, _ => h.elim
  | _ :: _, [], _, _, _, h, _, _ => h.elim
theorem expA_stale {E E' : Env} {M : Mem} {k : Nat} {a b : AV} {ids fz : List Nat} {v : Value} (h : ExpA M a b ids fz) (hr : Rep E a v) (hk : k < E'.k) (hn : E'.ad k = none) : Rep E' (staleA k b) v := by
  cases a with
  | g cs =>
    cases b with
    | g ds =>
      cases hr with
      | g _ ys hl hr =>
        obtain ⟨k2, k3⟩ := expL_stale hk hn (vs := ys.toList) h (by simpa using hl) (fun i h1 h2 => by simpa using hr i h1 (by simpa using h2))
        refine .g _ ys (by rw [k2]; simp) fun i h1 h2 => ?_
        have := k3 i h1 (by simpa using h2)
        rw [Array.getElem_toList] at this
        exact this
    | _ =>
      have := h
      simp only [ExpA, ExpC] at this
      obtain ⟨t1, _⟩ := this
      first | (cases t1.g; done) | (cases t1.t; done) | (cases t1.toG; done) | (cases t1.toT; done)
  | _ =>
    cases b with
    | g ds =>
      have := h
      simp only [ExpA, ExpC] at this
      obtain ⟨t1, _⟩ := this
      first | (cases t1.g; done) | (cases t1.t; done) | (cases t1.toG; done) | (cases t1.toT; done)
    | _ =>
      have h' := h
      simp only [ExpA] at h'
      exact expC_stale h' hr hk hn
theorem expLA_stale {E E' : Env} {M : Mem} {k : Nat} (hk : k < E'.k) (hn : E'.ad k = none) : ∀ {cs ds : List AV} {ids fz : List Nat} {vs : List Value}, ExpLA M cs ds ids fz → vs.length = cs.length → (∀ i (h1 : i < cs.length) (h2 : i < vs.length), Rep E cs[i] vs[i]) →
    (ds.map (staleA k)).length = vs.length ∧ ∀ i (h1 : i < (ds.map (staleA k)).length) (h2 : i < vs.length), Rep E' (ds.map (staleA k))[i] vs[i]
  | [], [], ids, fz, [], h, hl, hr => ⟨rfl, fun i h1 => absurd h1 (by simp)⟩
  | [], [], ids, fz, _ :: _, h, hl, hr => by simp at hl
  | a :: r, b :: s, ids, fz, [], h, hl, hr => by simp at hl
  | a :: r, b :: s, ids, fz, v :: vs, h, hl, hr => by
    obtain ⟨i1, i2, f1, f2, rfl, rfl, h1, h2⟩ := h
    have k1 := expA_stale (E' := E') (k := k) h1 (hr 0 (by simp) (by simp)) hk hn
    obtain ⟨k2, k3⟩ := expLA_stale hk hn h2 (by simpa using hl) (fun i g1 g2 => hr (i + 1) (by simpa using g1) (by simpa using g2))
    refine ⟨by simpa using k2, fun i g1 g2 => ?_⟩
    cases i with
    | zero => exact k1
    | succ i => exact k3 i (by simpa using g1) (by simpa using g2)
  | [], _ :: _, _, _, _, h, _, _ => h.elim
  | _ :: _, [], _, _, _, h, _, _ => h.elim
theorem expR_stale {E E' : Env} {M : Mem} {k : Nat} {a b : AV} {ids fz : List Nat} {v : Value} (h : ExpR M a b ids fz) (hr : Rep E a v) (hk : k < E'.k) (hn : E'.ad k = none) : Rep E' (stale k b) v := by
  cases a with
  | t cs =>
    cases b with
    | t ds =>
      cases hr with
      | t _ ys hl hr =>
        obtain ⟨k2, k3⟩ := expLA_stale hk hn (vs := ys.toList) h (by simpa using hl) (fun i h1 h2 => by simpa using hr i h1 (by simpa using h2))
        refine .t _ ys (by rw [k2]; simp) fun i h1 h2 => ?_
        have := k3 i h1 (by simpa using h2)
        rw [Array.getElem_toList] at this
        exact this
    | _ =>
      have := h
      simp only [ExpR, ExpA, ExpC] at this
      obtain ⟨t1, _⟩ := this
      first | (cases t1.g; done) | (cases t1.t; done) | (cases t1.toG; done) | (cases t1.toT; done)
  | _ =>
    cases b with
    | t ds =>
      have := h
      simp only [ExpR, ExpA, ExpC] at this
      obtain ⟨t1, _⟩ := this
      first | (cases t1.g; done) | (cases t1.t; done) | (cases t1.toG; done) | (cases t1.toT; done)
    | _ =>
      have h' := h
      simp only [ExpR] at h'
      exact expA_stale h' hr hk hn
/-- The arguments are kept; of rows that come back the lengths are known. -/
theorem icall_peek {P : Program} {f : FuncId} {args args' : List AV} {M : Mem} {res : AV} {K : AV → Mem → Prop} (ids : List Nat) (h : PCall P f args' res) (ha : Args M ids args args') (hK : K (stale M.k res) M.next) : ICall P f args M K := by
  refine ⟨h.1, fun w0 E vs hg hs hr => ?_⟩
  obtain ⟨hg1, hl1⟩ := hg.without ids
  refine Calls.mono' (h.2 E.w (E.without ids).callee vs (callee_good hg1) (by rw [hs, ha.len]) (callee_args hg ha hr)) ?_
  rintro e w' ⟨v, E', M', a, rfl, rfl, k1, k2, k3, IDS, FZ, k4, k5, k6⟩
  obtain ⟨g1, g2⟩ := Good.import hg k1 [] [] (by simp) rfl (fun j h1 => absurd h1 (by simp)) (fun b hb => by simp at hb)
  obtain ⟨g3, g4, g5⟩ := g1.next
  have hkk : (M.adds []).k = M.k := rfl
  rw [hkk] at g5
  refine ⟨v, (E.import E' []).next, _, _, rfl, rfl, g3, g2.trans g4, expR_stale (k := M.k) k4 k3 ?_ g5, hK⟩
  show M.k < E.k + 0 + 1
  rw [hg.k]; omega
end Go.Ab

set_option linter.unusedVariables false
set_option linter.constructorNameAsVariable false
set_option linter.unusedSimpArgs false
namespace Go.Ab
open Go Go.RowKit

theorem St.window {w0 : World} {E : Env} {D : List Deferred} {a : Act} {sl : Slots} {m : Mem} {N : Nat} (t id len n : Nat) (T : TypeId) (sz : Nat) (xs : List AV) (ht : Slots.get sl t = .w id len n) (hm : m.get id = some ⟨T, sz, xs⟩)
    (hn : xs.length ≤ n) (hp : PureL xs) (hst : St w0 E D ⟨sl, m, N⟩ a) : St w0 (E.without [id]) D ⟨insert sl t (.l sz (xs.take len)), m.drop id, N⟩ a ∧ Later E (E.without [id]) := by
  have hr : Rep E (.w id len n) (a.tmps.getD t undef) := by rw [← ht]; exact hst.r t
  have hg := hst.g
  obtain ⟨q, q1, q2, q3, q4, q5⟩ := hg.held id _ hm
  simp only at q2 q3
  obtain ⟨w1, w2⟩ := hg.without [id]
  refine ⟨⟨w1, (hst.r.later w2).see (t := t) ?_, hst.n, hst.d⟩, w2⟩
  generalize a.tmps.getD t undef = v at hr
  cases hr with
  | w _ _ _ A cap hk hrel =>
  obtain ⟨g1, g2⟩ := hrel q q1
  obtain ⟨g6, g3, g4, g5⟩ := g2 (by omega)
  subst g4 g5
  have hqcp : 0 < q.cp := by omega
  obtain ⟨hb0, hb⟩ := q5 hqcp
  have hlt := backed_lt hb
  obtain ⟨_, arr, a1, a2, a3⟩ := hb
  simp only at a3
  have hlen : (xs.take len).length = len := by simp; omega
  have hrep : Rep (E.without [id]) (.l sz (xs.take len)) (.slice (some ⟨q.b, 0, none⟩) (xs.take len).length q.cp) := by
    refine .l _ _ _ _ q.cp (fun i j => (arr[i * sz + j]?).getD undef) (by omega) ⟨hlt, hg.hid id q q1 hqcp, fun i q' hq' hcp' => ?_⟩ (fun i hi' => ?_) (fun i j hi' hj => ?_) (fun i hi' j hj => ?_)
    · simp only [Env.without] at hq'
      split at hq'
      · cases hq'
      · rename_i hni
        exact hg.inj i id q' q (fun e => hni (by simp [e])) hq' q1 hcp' hqcp
    · simp only [List.getElem_take]
      exact (a3 i (by omega)).1
    · have hc := (a3 i (by omega)).1
      obtain ⟨y, b1, b2, b3⟩ := (a3 i (by omega)).2 j (by rw [hc]; exact hj)
      simp only [Env.without, World.cell?, a1, Nat.zero_add]
      exact ⟨by simp [b1], by rw [b1]; exact b2⟩
    · simp only [List.getElem_take] at hj ⊢
      obtain ⟨y, b1, b2, b3⟩ := (a3 i (by omega)).2 j hj
      rw [b1]
      exact b3.later w2
  rw [hlen] at hrep
  exact hrep
/-- What holds of the state, however it is seen. -/
def SeeK (K : Exit → ASt → Prop) (e : Exit) (s : ASt) : Prop :=
  ∀ w0 E D a E0, St w0 E D s a → Later E0 E → ∃ E' s', E'.w = E.w ∧ St w0 E' D s' a ∧ Later E0 E' ∧ K e s'
theorem see_after {P : Program} {c : Code} {K : Exit → ASt → Prop} {s : ASt} (h : ACode P c (SeeK K) s) : ACode P c K s := fun ro w0 E D a hst =>
  Code.wpIn_mono (fun e _ _ ⟨E', s', h1, h2, h3, h4⟩ => by
    obtain ⟨E2, s2, k1, k2, k3, k4⟩ := h4 _ _ _ _ _ h2 h3
    exact ⟨E2, s2, k1.trans h1, k2, k3, k4⟩) (h ro w0 E D a hst)
theorem SeeK.done {K : Exit → ASt → Prop} {e : Exit} {s : ASt} (h : K e s) : SeeK K e s := fun w0 E D a E0 hst hl => ⟨E, s, rfl, hst, hl, h⟩
theorem SeeK.full {K : Exit → ASt → Prop} {e : Exit} {sl : Slots} {m : Mem} {N : Nat} (t sz : Nat) (xs : List AV) (ht : Slots.get sl t = .u sz xs) (h : SeeK K e ⟨insert sl t (.l sz xs), m, N⟩) : SeeK K e ⟨sl, m, N⟩ := fun w0 E D a E0 hst hl => by
  have hr : Rep E (.u sz xs) (a.tmps.getD t undef) := by rw [← ht]; exact hst.r t
  refine h w0 E D a E0 ⟨hst.g, hst.r.see (t := t) ?_, hst.n, hst.d⟩ hl
  generalize a.tmps.getD t undef = v at hr
  cases hr with
  | u _ _ A h => exact h
theorem SeeK.window {K : Exit → ASt → Prop} {e : Exit} {sl : Slots} {m : Mem} {N : Nat} (t id len n : Nat) (T : TypeId) (sz : Nat) (xs : List AV) (ht : Slots.get sl t = .w id len n) (hm : m.get id = some ⟨T, sz, xs⟩)
    (hn : xs.length ≤ n) (hp : PureL xs) (h : SeeK K e ⟨insert sl t (.l sz (xs.take len)), m.drop id, N⟩) : SeeK K e ⟨sl, m, N⟩ := fun w0 E D a E0 hst hl => by
  obtain ⟨h1, h2⟩ := St.window t id len n T sz xs ht hm hn hp hst
  have := h w0 (E.without [id]) D a E0 h1 (hl.trans h2)
  exact this
end Go.Ab
