/- How abstract memory may change: a block that comes, grows or is written; one that is given up. -/
import Derived.Test.YtpjmbigfgoogaacAb2
set_option linter.unusedVariables false
set_option linter.unusedSimpArgs false
set_option linter.constructorNameAsVariable false
namespace Go.Ab
open Go Go.RowKit

def upd (ad : Nat → Option At) (id : Nat) (q : Option At) : Nat → Option At := fun i => if i = id then q else ad i
theorem upd_self (ad : Nat → Option At) (id : Nat) (q : Option At) : upd ad id q id = q := by simp [upd]
theorem upd_ne (ad : Nat → Option At) {id i : Nat} (q : Option At) (h : i ≠ id) : upd ad id q i = ad i := by simp [upd, h]

theorem backed_lt {E : Env} {q : At} {blk : Blk} (h : Backed E q blk) : q.b < E.w.heap.size := by
  obtain ⟨_, arr, h, _⟩ := h
  exact (Array.getElem?_eq_some_iff.1 h).1

theorem Backed.later {E E' : Env} (hl : Later E E') {q : At} {blk : Blk} (h : Backed E q blk) (hh : E'.w.heap[q.b]? = E.w.heap[q.b]?) : Backed E' q blk := by
  obtain ⟨h0, arr, h1, h2, h3⟩ := h
  refine ⟨h0, arr, by rw [hh]; exact h1, h2, fun i hi => ⟨(h3 i hi).1, fun j hj => ?_⟩⟩
  obtain ⟨y, hy, hone, hr⟩ := (h3 i hi).2 j hj
  exact ⟨y, hy, hone, hr.later hl⟩

/-- A block of the call's own is new, or has changed. -/
theorem Good.upd {w0 : World} {E : Env} {M : Mem} (hg : Good w0 E M) (w' : World) (id k' : Nat) (q' : At) (blk' : Blk)
    (hk : E.k ≤ k') (hid : id < k') (hbelow : Below w0.heap.size w0 w') (hsz : E.w.heap.size ≤ w'.heap.size)
    (hsame : ∀ b, b < E.w.heap.size → (∀ q, E.ad id = some q → 0 < q.cp → q.b ≠ b) → w'.heap[b]? = E.w.heap[b]?)
    (hq1 : q'.sz = blk'.sz) (hq2 : q'.n = blk'.xs.length) (hq3 : q'.n ≤ q'.cp)
    (hb : 0 < q'.cp → w0.heap.size ≤ q'.b ∧ (E.w.heap.size ≤ q'.b ∨ ∃ q, E.ad id = some q ∧ 0 < q.cp ∧ q.b = q'.b))
    (hn : ∀ q, E.ad id = some q → q.n ≤ q'.n ∧ (q'.n = q.n → q = q'))
    (hnew : id < E.k → ∃ q, E.ad id = some q)
    (hback : Later E ⟨w', Ab.upd E.ad id (some q'), k', E.hid⟩ → 0 < q'.cp → Backed ⟨w', Ab.upd E.ad id (some q'), k', E.hid⟩ q' blk') :
    Good w0 ⟨w', Ab.upd E.ad id (some q'), k', E.hid⟩ ⟨insert M.l id blk', k'⟩ ∧ Later E ⟨w', Ab.upd E.ad id (some q'), k', E.hid⟩ := by
  have hlater : Later E ⟨w', Ab.upd E.ad id (some q'), k', E.hid⟩ := by
    refine ⟨fun b hb0 => ⟨⟨Nat.lt_of_lt_of_le hb0.1 hsz, hb0.2.1, fun i q hq hcp => ?_⟩, hsame b hb0.1 (fun q hq hcp => hb0.2.2 id q hq hcp)⟩, hk, fun i hi q hq => ?_, rfl⟩
    · by_cases e : i = id
      · subst e
        simp only [upd_self, Option.some.injEq] at hq
        subst hq
        rcases (hb hcp).2 with h | ⟨q, h1, h2, h3⟩
        · have := hb0.1; omega
        · rw [← h3]; exact hb0.2.2 i q h1 h2
      · simp only [upd_ne _ _ e] at hq
        exact hb0.2.2 i q hq hcp
    · by_cases e : i = id
      · subst e
        simp only [upd_self, Option.some.injEq] at hq
        subst hq
        obtain ⟨q, hq⟩ := hnew hi
        exact ⟨q, hq, hn q hq⟩
      · simp only [upd_ne _ _ e] at hq
        exact ⟨q, hq, Nat.le_refl _, fun _ => rfl⟩
  refine ⟨⟨hbelow, rfl, fun i q hq => ?_, fun i hi => ?_, fun i blk hi => ?_, fun i q hq hcp => ?_, hg.old, fun i i' q1 q2 hne h1 h2 hc1 hc2 => ?_⟩, hlater⟩
  · by_cases e : i = id
    · subst e; exact hid
    · simp only [upd_ne _ _ e] at hq
      exact Nat.lt_of_lt_of_le (hg.lt i q hq) hk
  · simp only [Mem.get, assoc_insert] at hi
    by_cases e : id = i
    · simp [e] at hi
    · simp only [e, if_false] at hi
      simp only [upd_ne _ _ (Ne.symm e)]
      exact hg.gone i hi
  · simp only [Mem.get, assoc_insert] at hi
    by_cases e : id = i
    · subst e
      simp only [if_true, Option.some.injEq] at hi
      subst hi
      exact ⟨q', by simp only [upd_self], hq1, hq2, hq3, fun hcp => ⟨(hb hcp).1, hback hlater hcp⟩⟩
    · simp only [e, if_false] at hi
      obtain ⟨q, h1, h2, h3, h4, h5⟩ := hg.held i blk hi
      refine ⟨q, by simp only [upd_ne _ _ (Ne.symm e)]; exact h1, h2, h3, h4, fun hcp => ⟨(h5 hcp).1, ((h5 hcp).2).later hlater ?_⟩⟩
      exact hsame _ (backed_lt (h5 hcp).2) (fun q0 hq0 hcp0 => hg.inj id i q0 q e hq0 h1 hcp0 hcp)
  · by_cases e : i = id
    · subst e
      simp only [upd_self, Option.some.injEq] at hq
      subst hq
      intro hh
      have := hg.old _ hh
      have := (hb hcp).1
      omega
    · simp only [upd_ne _ _ e] at hq
      exact hg.hid i q hq hcp
  · have key : ∀ i q, i ≠ id → E.ad i = some q → 0 < q.cp → 0 < q'.cp → q.b ≠ q'.b := fun i q hne hq hcp hcp' => by
      rcases (hb hcp').2 with h | ⟨q0, a1, a2, a3⟩
      · cases hM : M.get i with
        | none => rw [hg.gone i hM] at hq; cases hq
        | some blk =>
          obtain ⟨q1, b1, _, _, _, b5⟩ := hg.held i blk hM
          rw [hq] at b1
          cases b1
          have := backed_lt (b5 hcp).2
          omega
      · rw [← a3]; exact hg.inj i id q q0 hne hq a1 hcp a2
    by_cases e1 : i = id
    · subst e1
      simp only [upd_self, Option.some.injEq] at h1
      subst h1
      simp only [upd_ne _ _ (Ne.symm hne)] at h2
      exact (key i' q2 (Ne.symm hne) h2 hc2 hc1).symm
    · simp only [upd_ne _ _ e1] at h1
      by_cases e2 : i' = id
      · subst e2
        simp only [upd_self, Option.some.injEq] at h2
        subst h2
        exact key i q1 e1 h1 hc1 hc2
      · simp only [upd_ne _ _ e2] at h2
        exact hg.inj i i' q1 q2 hne h1 h2 hc1 hc2

/-- The same moment, some orders having been drawn. -/
theorem Good.drawn {w0 : World} {E : Env} {M : Mem} (hg : Good w0 E M) (d : Nat) : Good w0 ⟨{ E.w with drawn := d }, E.ad, E.k, E.hid⟩ M ∧ Later E ⟨{ E.w with drawn := d }, E.ad, E.k, E.hid⟩ := by
  have hl : Later E ⟨{ E.w with drawn := d }, E.ad, E.k, E.hid⟩ := ⟨fun b h => ⟨h, rfl⟩, Nat.le_refl _, fun i _ q hq => ⟨q, hq, Nat.le_refl _, fun _ => rfl⟩, rfl⟩
  refine ⟨⟨⟨hg.below.os, hg.below.tape, hg.below.output, hg.below.size, hg.below.block⟩, hg.k, hg.lt, hg.gone, fun i blk hi => ?_, hg.hid, hg.old, hg.inj⟩, hl⟩
  obtain ⟨q, h1, h2, h3, h4, h5⟩ := hg.held i blk hi
  exact ⟨q, h1, h2, h3, h4, fun hcp => ⟨(h5 hcp).1, ((h5 hcp).2).later hl rfl⟩⟩

/-- A block is given up: nobody writes it any more. -/
theorem Good.drop {w0 : World} {E : Env} {M : Mem} (hg : Good w0 E M) (id : Nat) : Good w0 ⟨E.w, Ab.upd E.ad id none, E.k, E.hid⟩ (M.drop id) ∧ Later E ⟨E.w, Ab.upd E.ad id none, E.k, E.hid⟩ := by
  have hl : Later E ⟨E.w, Ab.upd E.ad id none, E.k, E.hid⟩ := by
    refine ⟨fun b h => ⟨⟨h.1, h.2.1, fun i q hq hcp => ?_⟩, rfl⟩, Nat.le_refl _, fun i _ q hq => ?_, rfl⟩
    · by_cases e : i = id
      · subst e; simp [upd_self] at hq
      · simp only [upd_ne _ _ e] at hq; exact h.2.2 i q hq hcp
    · by_cases e : i = id
      · subst e; simp [upd_self] at hq
      · simp only [upd_ne _ _ e] at hq
        exact ⟨q, hq, Nat.le_refl _, fun _ => rfl⟩
  refine ⟨⟨hg.below, hg.k, fun i q hq => ?_, fun i hi => ?_, fun i blk hi => ?_, fun i q hq hcp => ?_, hg.old, fun i i' q1 q2 hne h1 h2 hc1 hc2 => ?_⟩, hl⟩
  · by_cases e : i = id
    · subst e; simp [upd_self] at hq
    · simp only [upd_ne _ _ e] at hq; exact hg.lt i q hq
  · by_cases e : i = id
    · subst e; simp [upd_self]
    · simp only [upd_ne _ _ e]
      simp only [Mem.get, Mem.drop, assoc_remove, Ne.symm e, if_false] at hi
      exact hg.gone i hi
  · simp only [Mem.get, Mem.drop, assoc_remove] at hi
    by_cases e : id = i
    · simp [e] at hi
    · simp only [e, if_false] at hi
      obtain ⟨q, h1, h2, h3, h4, h5⟩ := hg.held i blk hi
      exact ⟨q, by simp only [upd_ne _ _ (Ne.symm e)]; exact h1, h2, h3, h4, fun hcp => ⟨(h5 hcp).1, ((h5 hcp).2).later hl rfl⟩⟩
  · by_cases e : i = id
    · subst e; simp [upd_self] at hq
    · simp only [upd_ne _ _ e] at hq; exact hg.hid i q hq hcp
  · by_cases e1 : i = id
    · subst e1; simp [upd_self] at h1
    · by_cases e2 : i' = id
      · subst e2; simp [upd_self] at h2
      · simp only [upd_ne _ _ e1] at h1
        simp only [upd_ne _ _ e2] at h2
        exact hg.inj i i' q1 q2 hne h1 h2 hc1 hc2

def below' {α : Type} : List (Nat × α) → Nat → List (Nat × α)
  | [], _ => []
  | (k, v) :: r, n => bif Nat.blt k n then (k, v) :: below' r n else below' r n
theorem assoc_below' {α : Type} (l : List (Nat × α)) (n m : Nat) : assoc (below' l n) m = if m < n then assoc l m else none := by
  induction l with
  | nil => simp [below', assoc]
  | cons a r ih =>
    obtain ⟨k, v⟩ := a
    cases h1 : Nat.blt k n with
    | true =>
      have hk : k < n := by simpa [Nat.blt_eq] using h1
      by_cases h : k = m
      · subst h; simp [below', assoc, h1, hk]
      · simpa [below', assoc, h1, beq_ne h] using ih
    | false =>
      have hk : ¬ k < n := by
        intro h
        have : Nat.blt k n = true := by simpa [Nat.blt_eq] using h
        rw [this] at h1; cases h1
      by_cases h : k = m
      · subst h; simp only [below', h1, cond_false, ih, hk, if_false]
      · simpa [below', assoc, h1, beq_ne h] using ih
/-- What came behind number k is forgotten. -/
def Mem.cut (M : Mem) (k : Nat) : Mem := ⟨below' M.l k, k⟩
def Env.cut (E : Env) (k : Nat) : Env := ⟨E.w, fun i => if i < k then E.ad i else none, k, E.hid⟩
theorem Later.cut {E0 E : Env} (h : Later E0 E) : Later E0 (E.cut E0.k) := by
  refine ⟨fun b hb => ⟨⟨(h.z b hb).1.1, (h.z b hb).1.2.1, fun i q hq hcp => ?_⟩, (h.z b hb).2⟩, Nat.le_refl _, fun i hi q hq => ?_, h.hid⟩
  · simp only [Env.cut] at hq
    split at hq
    · exact (h.z b hb).1.2.2 i q hq hcp
    · cases hq
  · simp only [Env.cut, hi, if_true] at hq
    exact h.ad i hi q hq
/-- Nothing in it is a block of number k or more. -/
inductive Under (k : Nat) : AV → Prop where
  | c (v : Value) : Under k (.c v)
  | x : Under k .x
  | l (sz : Nat) (xs : List AV) (h : ∀ i (hi : i < xs.length), ∀ j (hj : j < xs[i].cells.length), Under k xs[i].cells[j]) : Under k (.l sz xs)
  | g (cs : List AV) (h : ∀ i (hi : i < cs.length), Under k cs[i]) : Under k (.g cs)
  | t (cs : List AV) (h : ∀ i (hi : i < cs.length), Under k cs[i]) : Under k (.t cs)
  | e (cs : List AV) (h : ∀ i (hi : i < cs.length), Under k cs[i]) : Under k (.e cs)
  | f (fn : FuncId) (cs : List AV) (h : ∀ i (hi : i < cs.length), Under k cs[i]) : Under k (.f fn cs)
  | p (id i j n : Nat) (h : id < k) : Under k (.p id i j n)
  | s (id off n : Nat) (h : id < k) : Under k (.s id off n)
theorem Rep.cut {E : Env} {k : Nat} {a : AV} {v : Value} (hr : Rep E a v) (hu : Under k a) : Rep (E.cut k) a v := by
  have hz : ∀ b, E.Z b → (E.cut k).Z b := fun b h => ⟨h.1, h.2.1, fun i q hq hcp => by
    simp only [Env.cut] at hq
    split at hq
    · exact h.2.2 i q hq hcp
    · cases hq⟩
  induction hr with
  | c v h => exact .c v h
  | x v => exact .x v
  | g cs ys h hr ih => cases hu with | g _ hu => exact .g cs ys h fun i h1 h2 => ih i h1 h2 (hu i h1)
  | t cs ys h hr ih => cases hu with | t _ hu => exact .t cs ys h fun i h1 h2 => ih i h1 h2 (hu i h1)
  | f fn cs ys h hr ih => cases hu with | f _ _ hu => exact .f fn cs ys h fun i h1 h2 => ih i h1 h2 (hu i h1)
  | l sz xs b off cap y hcap hb hs hc hr ih => cases hu with | l _ _ hu => exact .l sz xs b off cap y hcap (hz b hb) hs hc fun i hi j hj => ih i hi j hj (hu i hi j hj)
  | l0 sz A cap => exact .l0 sz A cap
  | e cs b off y hb hc hr ih => cases hu with | e _ hu => exact .e cs b off y (hz b hb) hc fun j hj => ih j hj (hu j hj)
  | p id i j n a hk h =>
    cases hu with | p _ _ _ _ hu =>
    refine .p id i j n a hu fun q hq => ?_
    simp only [Env.cut, hu, if_true] at hq
    exact h q hq
  | s id off n A cap hk h =>
    cases hu with | s _ _ _ hu =>
    refine .s id off n A cap hu fun q hq => ?_
    simp only [Env.cut, hu, if_true] at hq
    exact h q hq
theorem Good.cut {w0 : World} {E : Env} {M : Mem} (hg : Good w0 E M) (k : Nat)
    (hu : ∀ id blk, M.get id = some blk → id < k → ∀ i (hi : i < blk.xs.length), ∀ j (hj : j < blk.xs[i].cells.length), Under k blk.xs[i].cells[j]) : Good w0 (E.cut k) (M.cut k) := by
  refine ⟨hg.below, rfl, fun i q hq => ?_, fun i hi => ?_, fun i blk hi => ?_, fun i q hq hcp => ?_, hg.old, fun i i' q1 q2 hne h1 h2 hc1 hc2 => ?_⟩
  · simp only [Env.cut] at hq
    split at hq
    · assumption
    · cases hq
  · simp only [Mem.get, Mem.cut, assoc_below'] at hi
    simp only [Env.cut]
    split
    · rename_i h; rw [if_pos h] at hi; exact hg.gone i hi
    · rfl
  · simp only [Mem.get, Mem.cut, assoc_below'] at hi
    split at hi
    · rename_i h
      obtain ⟨q, h1, h2, h3, h4, h5⟩ := hg.held i blk hi
      refine ⟨q, by simp only [Env.cut, h, if_true]; exact h1, h2, h3, h4, fun hcp => ⟨(h5 hcp).1, ?_⟩⟩
      obtain ⟨a0, arr, a1, a2, a3⟩ := (h5 hcp).2
      refine ⟨a0, arr, a1, a2, fun i' hi' => ⟨(a3 i' hi').1, fun j hj => ?_⟩⟩
      obtain ⟨y, b1, b2, b3⟩ := (a3 i' hi').2 j hj
      exact ⟨y, b1, b2, b3.cut (hu i blk hi h i' hi' j hj)⟩
    · cases hi
  · simp only [Env.cut] at hq
    split at hq
    · exact hg.hid i q hq hcp
    · cases hq
  · simp only [Env.cut] at h1 h2
    split at h1
    · split at h2
      · exact hg.inj i i' q1 q2 hne h1 h2 hc1 hc2
      · cases h2
    · cases h1
end Go.Ab
