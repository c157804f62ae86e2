/- Slices of the call's own are given up (frozen); append. -/
import Derived.Test.YtpjmbigfgoogaacAb6
set_option linter.unusedVariables false
set_option linter.unusedSimpArgs false
set_option linter.constructorNameAsVariable false
namespace Go.Ab
open Go Go.RowKit

def Env.without (E : Env) (ids : List Nat) : Env := ⟨E.w, fun i => if i ∈ ids then none else E.ad i, E.k, E.hid⟩
def Mem.without (M : Mem) : List Nat → Mem
  | [] => M
  | id :: r => (M.drop id).without r
theorem without_nil (E : Env) : E.without [] = E := by simp [Env.without]
theorem without_cons (E : Env) (id : Nat) (r : List Nat) : E.without (id :: r) = (Env.without ⟨E.w, upd E.ad id none, E.k, E.hid⟩ r) := by
  simp only [Env.without, Env.mk.injEq, and_true, true_and]
  funext i
  by_cases h : i = id
  · subst h; simp [upd_self]
  · simp [upd_ne _ _ h, h]
theorem Good.without {w0 : World} {E : Env} {M : Mem} (hg : Good w0 E M) (ids : List Nat) : Good w0 (E.without ids) (M.without ids) ∧ Later E (E.without ids) := by
  induction ids generalizing E M with
  | nil => rw [without_nil]; exact ⟨hg, .refl E⟩
  | cons id r ih =>
    rw [without_cons]
    obtain ⟨h1, h2⟩ := hg.drop id
    obtain ⟨h3, h4⟩ := ih h1
    exact ⟨h3, h2.trans h4⟩

/-- All cells of all elements are without names of blocks. -/
def PureL (xs : List AV) : Prop := ∀ i (hi : i < xs.length), ∀ j (hj : j < xs[i].cells.length), Under 0 xs[i].cells[j]
/-- As it reads when it is given up. -/
def viewC (M : Mem) : AV → AV
  | .s id off _ => match M.get id with
    | some blk => .l blk.sz (blk.xs.drop off)
    | none => .x
  | a => a
def viewA (M : Mem) : AV → AV
  | .g cs => .g (cs.map (viewC M))
  | a => viewC M a
def idsC : AV → List Nat
  | .s id _ _ => [id]
  | _ => []
def idsA : AV → List Nat
  | .g cs => cs.flatMap idsC
  | a => idsC a
def VOkC (M : Mem) : AV → Prop
  | .s id off n => blkK M id (off + n) fun blk => PureL blk.xs
  | .g _ => False
  | _ => True
def AllV (M : Mem) : List AV → Prop
  | [] => True
  | a :: r => VOkC M a ∧ AllV M r
theorem AllV.get {M : Mem} : ∀ {l : List AV}, AllV M l → ∀ i (h : i < l.length), VOkC M l[i]
  | a :: r, h, 0, _ => h.1
  | a :: r, h, i + 1, hi => h.2.get i (by simpa using hi)
def VOkA (M : Mem) : AV → Prop
  | .g cs => AllV M cs
  | a => VOkC M a

theorem rep_viewC {w0 : World} {E : Env} {M : Mem} (hg : Good w0 E M) {a : AV} {v : Value} (hr : Rep E a v) (hv : VOkC M a) {ids : List Nat} (hi : ∀ id ∈ idsC a, id ∈ ids) :
    Rep (E.without ids) (viewC M a) v := by
  have hl := (hg.without ids).2
  cases hr with
  | s id off n A cap hk h =>
    obtain ⟨blk, hM, hn, hp⟩ := hv
    have hid : id ∈ ids := hi id (by simp [idsC])
    obtain ⟨q, h1, h2, h3, h4, h5⟩ := hg.held id blk hM
    simp only [viewC, hM]
    obtain ⟨g1, g2⟩ := h q h1
    obtain ⟨g3, g4⟩ := g2 (by omega)
    have hlen : (blk.xs.drop off).length = n := by simp; omega
    by_cases hcp : 0 < cap
    · have hqcp : 0 < q.cp := by omega
      obtain ⟨hb0, hb⟩ := h5 hqcp
      have hlt := backed_lt hb
      obtain ⟨_, arr, a1, a2, a3⟩ := hb
      have hA := g4 hcp
      subst hA
      rw [← hlen]
      refine .l _ _ _ _ cap (fun i j => (arr[(off + i) * blk.sz + j]?).getD undef) (by omega) ⟨hlt, hg.hid id q h1 hqcp, fun i q' hq' hcp' => ?_⟩ (fun i hi' => ?_) (fun i j hi' hj => ?_) (fun i hi' j hj => ?_)
      · simp only [Env.without] at hq'
        split at hq'
        · cases hq'
        · rename_i hni
          exact hg.inj i id q' q (fun e => hni (e ▸ hid)) hq' h1 hcp' hqcp
      · simp only [List.length_drop] at hi'
        simp only [List.getElem_drop]
        exact (a3 _ _).1
      · simp only [List.length_drop] at hi'
        have hc := (a3 (off + i) (by omega)).1
        obtain ⟨y, b1, b2, b3⟩ := (a3 (off + i) (by omega)).2 j (by rw [hc]; exact hj)
        simp only [Env.without, World.cell?, a1]
        have e : off * q.sz + (i * blk.sz + j) = (off + i) * blk.sz + j := by rw [h2, Nat.add_mul]; omega
        exact ⟨by simp [e, b1], by rw [b1]; exact b2⟩
      · simp only [List.length_drop] at hi'
        simp only [List.getElem_drop] at hj ⊢
        obtain ⟨y, b1, b2, b3⟩ := (a3 (off + i) (by omega)).2 j hj
        rw [b1]
        exact b3.later hl
    · have hn0 : n = 0 := by omega
      subst hn0
      have : blk.xs.drop off = [] := List.eq_nil_of_length_eq_zero hlen
      rw [this]
      exact .l0 _ _ _
  | c v h => exact .c v h
  | x v => exact .x v
  | g => exact hv.elim
  | t cs ys h hr => exact (Rep.t cs ys h hr).later hl
  | f cs ys a h hr => exact (Rep.f cs ys a h hr).later hl
  | l sz xs b off cap y hcap hz hs hc hr => exact (Rep.l sz xs b off cap y hcap hz hs hc hr).later hl
  | l0 sz A cap => exact .l0 sz A cap
  | e cs b off y hz hc hr => exact (Rep.e cs b off y hz hc hr).later hl
  | p id i j n a hk h => exact (Rep.p id i j n a hk h).later hl

theorem rep_viewA {w0 : World} {E : Env} {M : Mem} (hg : Good w0 E M) {a : AV} {v : Value} (hr : Rep E a v) (hv : VOkA M a) {ids : List Nat} (hi : ∀ id ∈ idsA a, id ∈ ids) :
    Rep (E.without ids) (viewA M a) v := by
  cases a with
  | g cs =>
    cases hr with
    | g _ ys h hr =>
      refine .g _ ys (by simpa using h) (fun i h1 h2 => ?_)
      simp only [List.getElem_map]
      have h1' : i < cs.length := by simpa using h1
      refine rep_viewC hg (hr i h1' h2) (AllV.get hv i h1') (fun id hid => hi id ?_)
      simp only [idsA, List.mem_flatMap]
      exact ⟨_, List.getElem_mem h1', hid⟩
  | _ => exact rep_viewC hg hr hv hi

section append
variable {P : Program} {t t2 e : TypeId} {ti : TI} {d2 : TypeDesc}
theorem run_append_stay (w : World) (ty : TypeId) (ht : P.underlying t = some (.slice e)) (hti : TOk P e ti) (h2 : P.underlying t2 = some d2) (hd2 : d2 = .string ∨ ∃ e2, d2 = .slice e2)
    (A : Option Addr) (n cap m : Nat) (x : Value) (news : List Value) (hlen : (Builtin.lenOf x).run P w = .ok m w) (hf : (Builtin.firstCells ti.sz m x).run P w = .ok news.toArray w)
    (hroom : n + m ≤ cap) (w' : World) (hs : (match A with | some a => (storeCells (a.add (n * ti.sz)) news).run P w | none => .ok () w) = .ok () w') :
    (Builtin.append_ #[t, t2] ty #[.slice A n cap, x]).run P w = .ok (.slice A (n + m) cap) w' := by
  rcases hd2 with rfl | ⟨e2, rfl⟩ <;> cases A <;> simp only at hs
  all_goals first
    | (cases hs; simp [Builtin.append_, run_underlying ht, hti.run_size, run_underlying h2, hlen, hf, hroom, Result.andThen]; done)
    | simp [Builtin.append_, run_underlying ht, hti.run_size, run_underlying h2, hlen, hf, hroom, Result.andThen, hs]
theorem run_append_more (w : World) (ty : TypeId) (ht : P.underlying t = some (.slice e)) (hti : TOk P e ti) (h2 : P.underlying t2 = some d2) (hd2 : d2 = .string ∨ ∃ e2, d2 = .slice e2)
    (A : Option Addr) (n cap m : Nat) (x : Value) (olds news : List Value) (hlen : (Builtin.lenOf x).run P w = .ok m w) (hf : (Builtin.firstCells ti.sz m x).run P w.drew = .ok news.toArray w.drew)
    (ho : (Builtin.firstCells ti.sz n (.slice A n cap)).run P w.drew = .ok olds.toArray w.drew)
    (hroom : ¬ n + m ≤ cap) (hby : (n + m) * ti.by' ≤ 140737488355328) (hby0 : 0 < ti.by') :
    (Builtin.append_ #[t, t2] ty #[.slice A n cap, x]).run P w = .ok (.slice (some ⟨w.heap.size, 0, none⟩) (n + m) (grownCap w (n + m) cap e))
      (w.drew.alloc (.cells (olds.toArray ++ news.toArray ++ Builtin.zeroCells ti.zero.cells (grownCap w (n + m) cap e - (n + m))) e)) := by
  obtain ⟨f, g1, g2, g3, g4⟩ := hti.ex
  have h48 := growslice_fits (by omega) hby (old := cap)
  have hb0 : f.bytes ≠ 0 := by omega
  have h48' : ¬ (281474976710656 < Builtin.nextslicecap (n + m) cap * f.bytes) := by rw [g4]; omega
  rcases hd2 with rfl | ⟨e2, rfl⟩ <;>
    simp [Builtin.append_, run_underlying ht, sizeOf, zeroValue, typeInfo, g1, g2, g3, run_underlying h2, hlen, hroom, hb0, h48', Question.forced, hf, ho, newRow, grownCap, Result.andThen] <;> (congr 2; apply Array.ext'; simp)
end append
end Go.Ab
