/- Operations on memory: new blocks, addresses. -/
import Derived.Test.YtpjmbigfgoogaacAb5
set_option linter.unusedVariables false
set_option linter.unusedSimpArgs false
set_option linter.constructorNameAsVariable false
namespace Go.Ab
open Go Go.RowKit

/-- A new block. -/
theorem Good.new {w0 : World} {E : Env} {M : Mem} (hg : Good w0 E M) (w' : World) (T : TypeId) (sz cp : Nat) (xs : List AV) (arr : Array Value)
    (hh : w'.heap = E.w.heap.push (.cells arr T)) (h1 : w'.os = E.w.os) (h2 : w'.tape = E.w.tape) (h3 : w'.output = E.w.output)
    (hs : arr.size = cp * sz) (hn : xs.length ≤ cp) (hmax : cp ≤ maxLen)
    (hc : ∀ i (hi : i < xs.length), xs[i].cells.length = sz ∧ ∀ j (hj : j < xs[i].cells.length), ∃ y, arr[i * sz + j]? = some y ∧ One y ∧ Rep E xs[i].cells[j] y) :
    Good w0 ⟨w', Ab.upd E.ad E.k (some ⟨E.w.heap.size, sz, xs.length, cp⟩), E.k + 1, E.hid⟩ ⟨insert M.l M.k ⟨T, sz, xs⟩, M.k + 1⟩ ∧
    Later E ⟨w', Ab.upd E.ad E.k (some ⟨E.w.heap.size, sz, xs.length, cp⟩), E.k + 1, E.hid⟩ := by
  have hold : ∀ b, b < E.w.heap.size → w'.heap[b]? = E.w.heap[b]? := fun b hb => by
    rw [hh, Array.getElem?_push, if_neg (by omega)]
  have hnone : E.ad E.k = none := by
    cases hq : E.ad E.k with
    | none => rfl
    | some q => exact absurd (hg.lt _ _ hq) (by omega)
  have hsz : E.w.heap.size ≤ w'.heap.size := by rw [hh]; simp
  have := Good.upd hg w' E.k (E.k + 1) ⟨E.w.heap.size, sz, xs.length, cp⟩ ⟨T, sz, xs⟩ (by omega) (by omega)
    (hg.below.trans ⟨h1, h2, h3, hsz, fun b hb => hold b (Nat.lt_of_lt_of_le hb hg.below.size)⟩) hsz (fun b hb _ => hold b hb) rfl rfl hn
    (fun _ => ⟨hg.below.size, .inl (Nat.le_refl _)⟩) (fun q hq => by rw [hnone] at hq; cases hq) (fun h => absurd h (by omega))
    (fun hl _ => by
      refine ⟨hmax, arr, by rw [hh]; simp, hs, fun i hi => ⟨(hc i hi).1, fun j hj => ?_⟩⟩
      obtain ⟨y, a, b, c⟩ := (hc i hi).2 j hj
      exact ⟨y, a, b, c.later hl⟩)
  rw [hg.k]
  exact this

def newMem (M : Mem) (b : Blk) : Mem := ⟨insert M.l M.k b, M.k + 1⟩
/-- A new variable. -/
def boxK (T : TypeId) (M : Mem) (a : AV) (K : AV → Mem → Prop) : Prop := Cells a ∧ K (.p M.k 0 0 1) (newMem M ⟨T, a.cells.length, [a]⟩)
theorem box_out {P : Program} {w0 : World} {E : Env} {M : Mem} {T : TypeId} {a : AV} {v : Value} {K : AV → Mem → Prop} (hg : Good w0 E M) (hr : Rep E a v) (h : boxK T M a K) :
    Out P w0 E (Instr.box T v) K := by
  obtain ⟨hc, hK⟩ := h
  obtain ⟨hs, hcr⟩ := hr.cells hc
  have hn := Good.new hg (E.w.alloc (.cells v.cells T)) T a.cells.length 1 [a] v.cells rfl rfl rfl rfl (by omega) (by simp) (by simp [maxLen]) (fun i hi => by
    have h0 : i = 0 := by simpa using hi
    subst h0
    refine ⟨rfl, fun j hj => ?_⟩
    simp only [List.getElem_cons_zero] at hj ⊢
    have hj2 : j < v.cells.size := by omega
    exact ⟨v.cells[j], by simp [hj2], (hcr j hj hj2).1, (hcr j hj hj2).2⟩)
  refine ⟨.pointer (some ⟨E.w.heap.size, 0, none⟩), _, _, .p M.k 0 0 1, ?_, hn.1, hn.2, ?_, hK⟩
  · simp [Instr.box, newVar, newRow]
  · refine .p _ _ _ _ _ (by rw [hg.k]; show E.k < E.k + 1; omega) (fun q hq => ?_)
    rw [hg.k] at hq
    simp only [upd_self, Option.some.injEq] at hq
    subst hq
    exact ⟨Nat.le_refl _, fun _ => by simp⟩

def zeroAV (i : TI) : AV := bif i.k.agg then .g (i.z.map .c) else .c (i.z.headD undef)
theorem rep_zero {P : Program} {t : TypeId} {i : TI} (h : TOk P t i) (hs : i.k.agg = true ∨ 0 < i.sz) (E : Env) : Rep E (zeroAV i) i.zero := by
  unfold zeroAV TI.zero
  cases ha : i.k.agg with
  | true =>
    refine .g _ _ (by simp) (fun k h1 h2 => ?_)
    simp only [List.getElem_map, List.getElem_toArray]
    exact .c _ (h.one _ (List.getElem_mem _))
  | false =>
    simp only [cond_false]
    have hz := h.z
    cases hq : i.z with
    | nil => rcases hs with hs | hs <;> simp_all
    | cons v r => exact .c v (h.one v (by rw [hq]; simp))
def allocK (T : TypeId) (i : TI) (M : Mem) (K : AV → Mem → Prop) : Prop := (i.k.agg = true ∨ 0 < i.sz) ∧ boxK T M (zeroAV i) K
theorem alloc_out {P : Program} {w0 : World} {E : Env} {M : Mem} {T : TypeId} {i : TI} {K : AV → Mem → Prop} (hg : Good w0 E M) (ht : TOk P T i) (h : allocK T i M K) :
    Out P w0 E (Instr.alloc T true (.tuple #[])) K := by
  obtain ⟨v, E', M', a, hr, h1, h2, h3, h4⟩ := box_out (P := P) hg (rep_zero ht h.1 E) h.2
  refine ⟨v, E', M', a, ?_, h1, h2, h3, h4⟩
  rw [← hr]
  simp [Instr.alloc, Instr.box, ht.run_zero, Result.andThen]

/-- A field's place. -/
def fieldK (fs : List (Nat × TypeId)) (ti : TI) (f : Nat) (M : Mem) : AV → (AV → Mem → Prop) → Prop
  | .p id i j n, K => 0 < ti.sz ∧ K (.p id i (j + ((fs.getD f (0, 0)).1)) n) M
  | .e cs, K => 0 < ti.sz ∧ (fs.getD f (0, 0)).1 ≤ cs.length ∧ K (.e (cs.drop (fs.getD f (0, 0)).1)) M
  | _, _ => False
theorem addr_add (b o n : Nat) : (⟨b, o, none⟩ : Addr).add n = ⟨b, o + n, none⟩ := by unfold Addr.add; split <;> simp_all
theorem field_out {P : Program} {w0 : World} {E : Env} {M : Mem} {S : TypeId} {fs : List (Nat × TypeId)} {ti : TI} {f : Nat} {a : AV} {v : Value} {K : AV → Mem → Prop} (hg : Good w0 E M)
    (hS : KOk P S (.st fs)) (hf : f < fs.length) (ht : TOk P (fs.getD f (0, 0)).2 ti) (hr : Rep E a v) (h : fieldK fs ti f M a K) : Out P w0 E (Instr.fieldAt S v f) K := by
  obtain ⟨A, hA, hfs⟩ := hS
  have hfl : f < A.size := by rw [← hfs] at hf; simpa using hf
  have hfd : fs.getD f (0, 0) = (A[f].offset, A[f].type) := by
    subst hfs
    simp [List.getD, hfl]
  rw [hfd] at ht
  have hplace : ∀ b o, 0 < ti.sz → (fieldPlace ⟨b, o, none⟩ A[f]).run P E.w = .ok ⟨b, o + A[f].offset, none⟩ E.w := fun b o hsz => by
    simp only [fieldPlace, Sem.run_bind, ht.run_size, Result.andThen]
    rw [if_neg (by omega), addr_add]
    rfl
  have hrun : ∀ b o, 0 < ti.sz → (Instr.fieldAt S (.pointer (some ⟨b, o, none⟩)) f).run P E.w = .ok (.pointer (some ⟨b, o + A[f].offset, none⟩)) E.w := fun b o hsz => by
    simp only [Instr.fieldAt, Sem.run_bind, run_underlying hA, Result.andThen, Array.getElem?_eq_getElem hfl, Instr.sureAddr, Sem.run_pure, hplace b o hsz]
  cases hr <;> try exact h.elim
  case p id i j n a hk hp =>
    obtain ⟨hsz, hK⟩ := h
    rw [hfd] at hK
    obtain ⟨b, o, s⟩ := a
    cases hq : E.ad id with
    | none =>
      -- a pointer of which nothing is known: it need not be one that may be moved
      cases s with
      | none => exact .val hg (hrun b o hsz) (.p _ _ _ _ _ hk (fun q hq' => by rw [hq] at hq'; cases hq')) hK
      | some s =>
        simp only [Instr.fieldAt] at *
        exact ⟨_, E, M, _, by
          simp only [Sem.run_bind, run_underlying hA, Result.andThen, Array.getElem?_eq_getElem hfl, Instr.sureAddr, Sem.run_pure, fieldPlace, ht.run_size]
          rw [if_neg (by omega)]
          rfl, hg, .refl E, .p _ _ _ _ _ hk (fun q hq' => by rw [hq] at hq'; cases hq'), hK⟩
    | some q =>
      obtain ⟨hle, he⟩ := hp q hq
      by_cases hn : n = q.n
      · have := he hn
        cases this
        exact .val hg (hrun _ _ hsz) (.p _ _ _ _ _ hk (fun q' hq' => by
          rw [hq] at hq'; cases hq'
          exact ⟨hle, fun _ => by simp [Nat.add_assoc]⟩)) hK
      · refine ⟨_, E, M, _, ?_, hg, .refl E, .p _ _ _ _ ((⟨b, o, s⟩ : Addr).add A[f].offset) hk (fun q' hq' => ?_), hK⟩
        · simp only [Instr.fieldAt, Sem.run_bind, run_underlying hA, Result.andThen, Array.getElem?_eq_getElem hfl, Instr.sureAddr, Sem.run_pure, fieldPlace, ht.run_size]
          rw [if_neg (by omega)]
          rfl
        · rw [hq] at hq'; cases hq'
          exact ⟨hle, fun h => absurd h hn⟩
  case e cs b off y hz hc hr =>
    obtain ⟨hsz, hle, hK⟩ := h
    rw [hfd] at hK hle
    refine .val hg (hrun _ _ hsz) (.e _ b (off + A[f].offset) (fun j => y (A[f].offset + j)) hz (fun j hj => ?_) (fun j hj => ?_)) hK
    · simp only [List.length_drop] at hj
      rw [Nat.add_assoc]; exact hc _ (by omega)
    · simp only [List.getElem_drop]
      exact hr _ _

/-- An element's place. -/
def idxK (sz : Nat) (M : Mem) : AV → AV → (AV → Mem → Prop) → Prop
  | .s id off n, .c (.int _ i), K => (0 ≤ i ∧ i < n) ∧ blkK M id (off + n) fun blk => blk.sz = sz ∧ K (.p id (off + i.toNat) 0 (off + n)) M
  | .l sz' xs, .c (.int _ i), K => 0 ≤ i ∧ i < xs.length ∧ sz' = sz ∧ Elem xs i.toNat fun el => K (.e el.cells) M
  | _, _, _ => False
theorem idx_out {P : Program} {w0 : World} {E : Env} {M : Mem} {t e : TypeId} {ti : TI} {a x' : AV} {v y : Value} {K : AV → Mem → Prop} (hg : Good w0 E M)
    (hS : KOk P t (.sl e)) (ht : TOk P e ti) (hr : Rep E a v) (hx : Rep E x' y) (h : idxK ti.sz M a x' K) : Out P w0 E (Instr.indexAt t v y) K := by
  simp only [KOk] at hS
  have hrun : ∀ (b o n c : Nat) (k : IntKind) (i : Int), 0 ≤ i → i < n → (Instr.indexAt t (.slice (some ⟨b, o, none⟩) n c) (.int k i)).run P E.w = .ok (.pointer (some ⟨b, o + i.toNat * ti.sz, none⟩)) E.w := fun b o n c k i h0 h1 => by
    simp only [Instr.indexAt, Sem.run_bind, asIntOf, Sem.run_pure, run_underlying hS, Result.andThen]
    simp only [h0, h1, and_self, if_true, Sem.run_bind, ht.run_size, Result.andThen, addr_add, Sem.run_pure]
  cases hr <;> try exact h.elim
  case l sz xs b off cap y0 hcap hz hs hc hr =>
    cases hx <;> try exact h.elim
    cases y <;> try exact h.elim
    rename_i k i _
    obtain ⟨h0, h1, hsz, hi, hK⟩ := h
    subst hsz
    refine .val hg (hrun _ _ _ _ _ _ h0 h1) (.e _ b (off + i.toNat * ti.sz) (fun j => y0 i.toNat j) hz (fun j hj => ?_) (fun j hj => hr _ hi j hj)) hK
    rw [hs _ hi] at hj
    rw [Nat.add_assoc]; exact hc _ _ hi hj
  case l0 sz A cap =>
    cases hx <;> try exact h.elim
    cases y <;> try exact h.elim
    obtain ⟨h0, h1, _⟩ := h
    simp at h1; omega
  case s id off n A cap hk hs =>
    cases hx <;> try exact h.elim
    cases y <;> try exact h.elim
    rename_i k i _
    obtain ⟨⟨h0, h1⟩, blk, hM, hn, hsz, hK⟩ := h
    obtain ⟨q, a1, a2, a3, a4, a5⟩ := hg.held id blk hM
    obtain ⟨_, b2⟩ := hs q a1
    obtain ⟨c1, c2⟩ := b2 (by omega)
    have hA := c2 (by omega)
    subst hA
    refine .val hg (hrun _ _ _ _ _ _ h0 h1) (.p _ _ _ _ _ hk (fun q' hq' => ?_)) hK
    rw [a1] at hq'; cases hq'
    refine ⟨by omega, fun _ => ?_⟩
    simp [Nat.add_mul, a2, hsz]
end Go.Ab
