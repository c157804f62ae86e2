/- Operations on memory: new blocks, reading, writing, addresses. -/
import Derived.Test.YtpjmbigfgoogaacAb3
set_option linter.unusedVariables false
set_option linter.unusedSimpArgs false
set_option linter.constructorNameAsVariable false
namespace Go.Ab
open Go Go.RowKit

section types
variable {P : Program} {t : TypeId} {i : TI}
theorem TOk.ex (h : TOk P t i) : ∃ f, P.info? t = some f ∧ f.zero = some i.zero ∧ f.size = i.sz ∧ f.bytes = i.by' := by
  have := h.info
  cases hq : P.info? t with
  | none => simp [hq] at this
  | some f => simp [hq] at this; exact ⟨f, rfl, this.1, this.2.1, this.2.2⟩
theorem TOk.run_size (h : TOk P t i) (w : World) : (sizeOf t).run P w = .ok i.sz w := by
  obtain ⟨f, h1, h2, h3, h4⟩ := h.ex
  simp [sizeOf, typeInfo, h1, h3]
theorem TOk.run_zero (h : TOk P t i) (w : World) : (zeroValue t).run P w = .ok i.zero w := by
  obtain ⟨f, h1, h2, h3, h4⟩ := h.ex
  simp [zeroValue, typeInfo, h1, h2]
theorem TOk.run_info (h : TOk P t i) (w : World) : ∃ f, (typeInfo t).run P w = .ok f w ∧ f.bytes = i.by' ∧ f.size = i.sz := by
  obtain ⟨f, h1, h2, h3, h4⟩ := h.ex
  exact ⟨f, by simp [typeInfo, h1], h4, h3⟩
theorem TOk.run_agg (h : TOk P t i) (ho : i.k.known = true) (w : World) : (isAgg t).run P w = .ok i.k.agg w := by
  have hk := h.k
  cases hq : i.k <;> rw [hq] at hk <;> simp only [KOk] at hk
  case st => obtain ⟨a, ha, _⟩ := hk; simp [isAgg, run_underlying ha, TK.agg]
  case fn => obtain ⟨a, b, c, ha⟩ := hk; simp [isAgg, run_underlying ha, TK.agg]
  case other => rw [hq] at ho; cases ho
  all_goals simp [isAgg, run_underlying hk, TK.agg]
end types

/-- A cell's contents. -/
def Cell : AV → Prop
  | .c _ => True
  | .l _ _ => True
  | .p _ _ _ _ => True
  | .s _ _ _ => True
  | .e _ => True
  | .f _ _ => True
  | _ => False
def AllCell : List AV → Prop
  | [] => True
  | a :: r => Cell a ∧ AllCell r
theorem AllCell.get : ∀ {l : List AV}, AllCell l → ∀ i (h : i < l.length), Cell l[i]
  | a :: r, h, 0, _ => h.1
  | a :: r, h, i + 1, hi => h.2.get i (by simpa using hi)
/-- What a variable may hold. -/
def Cells : AV → Prop
  | .g cs => AllCell cs
  | a => Cell a
theorem Rep.one {E : Env} {a : AV} {v : Value} (h : Rep E a v) (hc : Cell a) : One v := by
  cases h <;> first | assumption | rfl | exact hc.elim
theorem Rep.cells {E : Env} {a : AV} {v : Value} (h : Rep E a v) (hc : Cells a) : v.cells.size = a.cells.length ∧ ∀ j (h1 : j < a.cells.length) (h2 : j < v.cells.size), One v.cells[j] ∧ Rep E a.cells[j] v.cells[j] := by
  cases h with
  | g cs ys h hr => exact ⟨h, fun j h1 h2 => ⟨(hr j h1 h2).one (AllCell.get hc j h1), hr j h1 h2⟩⟩
  | t cs ys h hr => exact hc.elim
  | x => exact hc.elim
  | c v hv =>
    have e : v.cells = #[v] := by cases v <;> first | rfl | (simp [One, Value.oneCell'] at hv)
    refine ⟨by rw [e]; rfl, fun j h1 h2 => ?_⟩
    have h0 : j = 0 := by simp [AV.cells] at h1; omega
    subst h0
    simp only [e]
    exact ⟨hv, .c v hv⟩
  | l sz xs b off cap y hcap hz hs hc' hr =>
    exact ⟨rfl, fun j h1 h2 => by
      have h0 : j = 0 := by simp [AV.cells] at h1; omega
      subst h0
      exact ⟨rfl, .l sz xs b off cap y hcap hz hs hc' hr⟩⟩
  | l0 sz A cap =>
    exact ⟨rfl, fun j h1 h2 => by
      have h0 : j = 0 := by simp [AV.cells] at h1; omega
      subst h0
      exact ⟨rfl, .l0 sz A cap⟩⟩
  | p id i j n a hk h =>
    exact ⟨rfl, fun j' h1 h2 => by
      have h0 : j' = 0 := by simp [AV.cells] at h1; omega
      subst h0
      exact ⟨rfl, .p id i j n a hk h⟩⟩
  | s id off n A cap hk h =>
    exact ⟨rfl, fun j' h1 h2 => by
      have h0 : j' = 0 := by simp [AV.cells] at h1; omega
      subst h0
      exact ⟨rfl, .s id off n A cap hk h⟩⟩
  | e cs b off y hz hc' hr =>
    exact ⟨rfl, fun j' h1 h2 => by
      have h0 : j' = 0 := by simp [AV.cells] at h1; omega
      subst h0
      exact ⟨rfl, .e cs b off y hz hc' hr⟩⟩
  | f fn caps ys h hr =>
    exact ⟨rfl, fun j' h1 h2 => by
      have h0 : j' = 0 := by simp [AV.cells] at h1; omega
      subst h0
      exact ⟨rfl, .f fn caps ys h hr⟩⟩

/-- A cell of a block of the call's own. -/
theorem own_cell {w0 : World} {E : Env} {M : Mem} (hg : Good w0 E M) {id : Nat} {blk : Blk} (hM : M.get id = some blk) {i j : Nat} (hi : i < blk.xs.length) (hj : j < blk.sz) :
    ∃ q, E.ad id = some q ∧ q.sz = blk.sz ∧ q.n = blk.xs.length ∧ 0 < q.cp ∧ w0.heap.size ≤ q.b ∧ q.b < E.w.heap.size ∧ ∃ (hc : blk.xs[i].cells.length = blk.sz), ∃ y, E.w.cell? ⟨q.b, i * q.sz + j, none⟩ = some y ∧ One y ∧ Rep E (blk.xs[i].cells[j]'(hc ▸ hj)) y := by
  obtain ⟨q, h1, h2, h3, h4, h5⟩ := hg.held id blk hM
  have hcp : 0 < q.cp := by omega
  have hb := (h5 hcp).2
  have hlt := backed_lt hb
  obtain ⟨_, arr, a1, a2, a3⟩ := hb
  obtain ⟨hc, hr⟩ := a3 i hi
  obtain ⟨y, b1, b2, b3⟩ := hr j (hc ▸ hj)
  exact ⟨q, h1, h2, h3, hcp, (h5 hcp).1, hlt, hc, y, by simp only [World.cell?, a1, h2]; simpa using b1, b2, b3⟩

def part (i : TI) (cs : List AV) : AV := bif i.k.agg then .g (cs.take i.sz) else cs.headD .x
theorem load_cells {P : Program} {E : Env} {t : TypeId} {ti : TI} (ht : TOk P t ti) (ho : ti.k.known = true) {b off : Nat} {cs : List AV}
    (hc : ∀ k (hk : k < cs.length), ∃ y, E.w.cell? ⟨b, off + k, none⟩ = some y ∧ Rep E cs[k] y) (hs : ti.sz ≤ cs.length) (h0 : 0 < cs.length) :
    ∃ v, (loadVar t ⟨b, off, none⟩).run P E.w = .ok v E.w ∧ Rep E (part ti cs) v := by
  have hadd : ∀ k, (⟨b, off, none⟩ : Addr).add k = ⟨b, off + k, none⟩ := fun k => by unfold Addr.add; split <;> simp_all
  unfold part
  cases ha : ti.k.agg with
  | true =>
    have hl : (loadCells ⟨b, off, none⟩ ti.sz).run P E.w = .ok ((List.range ti.sz).map fun k => (E.w.cell? ⟨b, off + k, none⟩).getD undef).toArray E.w :=
      run_loadCells (P := P) E.w ⟨b, off, none⟩ ti.sz (fun k => (E.w.cell? ⟨b, off + k, none⟩).getD undef) (fun j hj => by
        obtain ⟨y, hy, _⟩ := hc j (by omega)
        rw [hadd, hy]; rfl)
    refine ⟨_, by simp only [loadVar, Sem.run_bind, ht.run_agg ho, ha, Result.andThen, if_true, ht.run_size, hl]; rfl, ?_⟩
    refine .g _ _ (by simp; omega) (fun k h1 h2 => ?_)
    have hk : k < cs.length := by simp at h1; omega
    obtain ⟨y, hy, hr⟩ := hc k hk
    simp only [List.getElem_take, List.getElem_toArray, List.getElem_map, List.getElem_range, hy, Option.getD_some]
    exact hr
  | false =>
    obtain ⟨y, hy, hr⟩ := hc 0 h0
    simp only [Nat.add_zero] at hy
    refine ⟨y, by simp [loadVar, ht.run_agg ho, ha, Result.andThen, hy], ?_⟩
    cases cs with
    | nil => simp at h0
    | cons a r => simpa using hr

/-- An element of a list: as the list is told. -/
def Elem (xs : List AV) (i : Nat) (K : AV → Prop) : Prop := ∃ h : i < xs.length, K xs[i]

def blkK (M : Mem) (id n : Nat) (K : Blk → Prop) : Prop := ∃ blk, M.get id = some blk ∧ n = blk.xs.length ∧ K blk

/-- Reading a variable. -/
def loadK (ti : TI) (M : Mem) : AV → (AV → Mem → Prop) → Prop
  | .p id i j n, K => blkK M id n fun blk => j + ti.sz ≤ blk.sz ∧ j < blk.sz ∧ Elem blk.xs i fun el => K (part ti (el.cells.drop j)) M
  | .e cs, K => ti.sz ≤ cs.length ∧ 0 < cs.length ∧ K (part ti cs) M
  | _, _ => False
theorem load_out {P : Program} {w0 : World} {E : Env} {M : Mem} {t : TypeId} {ti : TI} {a : AV} {v : Value} {K : AV → Mem → Prop} (hg : Good w0 E M) (ht : TOk P t ti) (ho : ti.k.known = true)
    (hr : Rep E a v) (h : loadK ti M a K) : Out P w0 E (Instr.loadAt t v) K := by
  cases hr <;> try exact h.elim
  case p id i j n a hk hp =>
    obtain ⟨blk, hM, hn, hs, hj, hi, hK⟩ := h
    obtain ⟨q, h1, h2, h3, h4, h5, h6, hcl, y, _⟩ := own_cell hg hM hi hj
    have ha := (hp q h1).2 (by omega)
    subst ha
    obtain ⟨v, hv, hrv⟩ := load_cells (E := E) (b := q.b) (off := i * q.sz + j) (cs := blk.xs[i].cells.drop j) ht ho (fun k hk => by
      simp only [List.length_drop, hcl] at hk
      obtain ⟨q', g1, g2, g3, g4, g5, g6, _, y, g8, g9, g10⟩ := own_cell hg hM hi (j := j + k) (by omega)
      rw [h1] at g1
      cases g1
      refine ⟨y, by rw [Nat.add_assoc]; exact g8, ?_⟩
      simpa using g10) (by simp [hcl]; omega) (by simp [hcl]; omega)
    exact .val hg (by simp only [Instr.loadAt, Instr.sureAddr, Sem.run_bind, Result.andThen]; exact hv) hrv hK
  case e cs b off y hz hc hr =>
    obtain ⟨hs, h0, hK⟩ := h
    obtain ⟨v, hv, hrv⟩ := load_cells (E := E) (b := b) (off := off) (cs := cs) ht ho (fun k hk => ⟨y k, (hc k hk).1, hr k hk⟩) hs h0
    exact .val hg (by simp only [Instr.loadAt, Instr.sureAddr, Sem.run_bind, Result.andThen]; exact hv) hrv hK
end Go.Ab
