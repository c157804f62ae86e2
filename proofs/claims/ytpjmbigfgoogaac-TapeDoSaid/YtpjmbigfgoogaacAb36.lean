/- Drawn regions in which variables come to be: their names are set aside ahead of the region. -/
import Derived.Test.YtpjmbigfgoogaacAb35
set_option linter.unusedVariables false
set_option linter.constructorNameAsVariable false
set_option linter.unusedSimpArgs false
namespace Go.Ab
open Go Go.RowKit

/-- Blocks set aside: without room, on no place yet. -/
def resv : Mem → List (TypeId × Nat) → Mem
  | M, [] => M
  | M, (T, sz) :: r => resv (newMem M ⟨T, sz, []⟩) r
theorem Good.ext {w0 : World} {E : Env} {M M' : Mem} (hg : Good w0 E M) (hk : M'.k = M.k) (h : ∀ i, M'.get i = M.get i) : Good w0 E M' :=
  ⟨hg.below, hk.trans hg.k, hg.lt, fun i hi => hg.gone i ((h i).symm.trans hi), fun i b hi => hg.held i b ((h i).symm.trans hi), hg.hid, hg.old, hg.inj⟩
theorem Good.set1 {w0 : World} {E : Env} {M : Mem} (hg : Good w0 E M) (T : TypeId) (sz : Nat) :
    Good w0 ⟨E.w, Ab.upd E.ad E.k (some ⟨0, sz, 0, 0⟩), E.k + 1, E.hid⟩ (newMem M ⟨T, sz, []⟩) ∧ Later E ⟨E.w, Ab.upd E.ad E.k (some ⟨0, sz, 0, 0⟩), E.k + 1, E.hid⟩ := by
  have hnone : E.ad E.k = none := by
    cases hq : E.ad E.k with
    | none => rfl
    | some q => exact absurd (hg.lt _ _ hq) (by omega)
  have := Good.upd hg E.w E.k (E.k + 1) ⟨0, sz, 0, 0⟩ ⟨T, sz, []⟩ (by omega) (by omega) hg.below (Nat.le_refl _) (fun b _ _ => rfl) rfl rfl (Nat.le_refl _)
    (fun h => absurd h (by simp)) (fun q hq => by rw [hnone] at hq; cases hq) (fun h => absurd h (by omega)) (fun _ h => absurd h (by simp))
  have e : newMem M ⟨T, sz, []⟩ = ⟨insert M.l E.k ⟨T, sz, []⟩, E.k + 1⟩ := by simp only [newMem, hg.k]
  rw [e]
  exact this
theorem Good.resv {w0 : World} : ∀ (rs : List (TypeId × Nat)) {E : Env} {M : Mem}, Good w0 E M → ∃ E', E'.w = E.w ∧ Good w0 E' (Ab.resv M rs) ∧ Later E E' ∧ E'.k = E.k + rs.length ∧ (∀ i, i < E.k → (Ab.resv M rs).get i = M.get i ∧ E'.ad i = E.ad i) ∧
    ∀ i, E.k ≤ i → i < E.k + rs.length → (∃ T sz, (Ab.resv M rs).get i = some ⟨T, sz, []⟩) ∧ ∃ sz, E'.ad i = some ⟨0, sz, 0, 0⟩
  | [], E, M, hg => ⟨E, rfl, hg, .refl E, rfl, fun i _ => ⟨rfl, rfl⟩, fun i h1 h2 => by simp at h2; omega⟩
  | (T, sz) :: r, E, M, hg => by
    obtain ⟨g1, l1⟩ := hg.set1 T sz
    obtain ⟨E', e1, e2, e3, e4, e5, e6⟩ := Good.resv r g1
    refine ⟨E', e1, e2, l1.trans e3, by rw [e4, List.length_cons]; show E.k + 1 + r.length = _; omega, fun i hi => ?_, fun i h1 h2 => ?_⟩
    · obtain ⟨a, b⟩ := e5 i (by show i < E.k + 1; omega)
      refine ⟨a.trans ?_, b.trans (upd_ne _ _ (by omega))⟩
      simp only [newMem, Mem.get, assoc_insert, hg.k]
      rw [if_neg (by omega)]
    · by_cases h : i = E.k
      · subst h
        obtain ⟨a, b⟩ := e5 E.k (by show E.k < E.k + 1; omega)
        refine ⟨⟨T, sz, a.trans ?_⟩, sz, b.trans (upd_self _ _ _)⟩
        simp only [newMem, Mem.get, assoc_insert, hg.k, if_true]
      · exact e6 i (by show E.k + 1 ≤ i; omega) (by show i < E.k + 1 + r.length; rw [List.length_cons] at h2; omega)
/-- A variable comes to be, on a name set aside. -/
theorem alloc_at {P : Program} {w0 : World} {E : Env} {M : Mem} {T : TypeId} {ti : TI} {id : Nat} {T0 : TypeId} {sz0 : Nat} (hg : Good w0 E M) (ht : TOk P T ti) (hc : ti.k.agg = true ∨ 0 < ti.sz) (hcc : Cells (zeroAV ti))
    (hid : M.get id = some ⟨T0, sz0, []⟩) : Out P w0 E (Instr.alloc T true (.tuple #[])) fun a M' => a = .p id 0 0 1 ∧ M' = M.put id ⟨T, (zeroAV ti).cells.length, [zeroAV ti]⟩ := by
  obtain ⟨q0, a1, a2, a3, a4, a5⟩ := hg.held id _ hid
  have hidk : id < E.k := hg.lt _ _ a1
  have hr := rep_zero (P := P) ht hc E
  obtain ⟨hs, hcr⟩ := hr.cells hcc
  generalize ha : zeroAV ti = a at *
  generalize hv : ti.zero = v at *
  have hold : ∀ b, b < E.w.heap.size → (E.w.alloc (.cells v.cells T)).heap[b]? = E.w.heap[b]? := fun b hb => by
    show (E.w.heap.push _)[b]? = _
    rw [Array.getElem?_push, if_neg (by omega)]
  have hsz : E.w.heap.size ≤ (E.w.alloc (.cells v.cells T)).heap.size := by show _ ≤ (E.w.heap.push _).size; simp
  have := Good.upd hg (E.w.alloc (.cells v.cells T)) id E.k ⟨E.w.heap.size, a.cells.length, 1, 1⟩ ⟨T, a.cells.length, [a]⟩ (Nat.le_refl _) hidk
    (hg.below.trans ⟨rfl, rfl, rfl, hsz, fun b hb => hold b (Nat.lt_of_lt_of_le hb hg.below.size)⟩) hsz (fun b hb _ => hold b hb) rfl rfl (Nat.le_refl _)
    (fun _ => ⟨hg.below.size, .inl (Nat.le_refl _)⟩) (fun q hq => by rw [a1] at hq; cases hq; simp only [List.length_nil] at a3; exact ⟨by omega, fun h => by simp only [a3] at h; omega⟩) (fun _ => ⟨q0, a1⟩)
    (fun hl _ => by
      refine ⟨by simp [maxLen], v.cells, by show (E.w.heap.push _)[E.w.heap.size]? = _; simp, by simpa using hs, fun i hi => ?_⟩
      have h0 : i = 0 := by simpa using hi
      subst h0
      refine ⟨rfl, fun j hj => ?_⟩
      simp only [List.getElem_cons_zero] at hj ⊢
      have hj2 : j < v.cells.size := by omega
      exact ⟨v.cells[j], by simp [hj2], (hcr j hj hj2).1, (hcr j hj hj2).2.later hl⟩)
  refine ⟨.pointer (some ⟨E.w.heap.size, 0, none⟩), _, _, .p id 0 0 1, ?_, this.1, this.2, ?_, rfl, ?_⟩
  · simp [Instr.alloc, ht.run_zero, Result.andThen, hv, newVar, newRow]
  · refine .p _ _ _ _ _ hidk (fun q hq => ?_)
    simp only [upd_self, Option.some.injEq] at hq
    subst hq
    exact ⟨Nat.le_refl _, fun _ => by simp⟩
  · simp only [Mem.put, hg.k]
/-- A literal of no elements. -/
theorem empty_at {P : Program} {w0 : World} {E : Env} {M : Mem} {t e : TypeId} {ti : TI} (hg : Good w0 E M) (hS : KOk P t (.sl e)) (ht : TOk P e ti) :
    ∃ A w', (Instr.buildSlice t 0 #[]).run P E.w = .ok (.slice A 0 0) w' ∧ Good w0 ⟨w', E.ad, E.k, E.hid⟩ M ∧ Later E ⟨w', E.ad, E.k, E.hid⟩ := by
  have hrun : (Instr.buildSlice t 0 #[]).run P E.w = .ok (.slice (some ⟨E.w.heap.size, 0, none⟩) 0 0) (E.w.alloc (.cells #[] e)) := by
    simp only [KOk] at hS
    simp [Instr.buildSlice, run_underlying hS, ht.run_size, Result.andThen, Instr.fill, newRow]
    have e0 : ∀ f : Nat → Value, (Array.range 0).map f = #[] := fun f => by simp
    rw [e0]
  have hbel : Below E.w.heap.size E.w (E.w.alloc (.cells #[] e)) := (Below.refl _ _).alloc (Nat.le_refl _) _
  obtain ⟨k1, k2⟩ := hg.grow hbel
  exact ⟨_, _, hrun, k1, k2⟩

/-- The memory with the blocks set aside as they may be. -/
def ovP (β : Nat → Blk) : List Nat → Mem → Mem
  | [], M => M
  | i :: r, M => ovP β r (M.put i (β i))
theorem ovP_k {β : Nat → Blk} : ∀ (l : List Nat) (M : Mem), (ovP β l M).k = M.k
  | [], _ => rfl
  | _ :: r, M => ovP_k r _
theorem ovP_get {β : Nat → Blk} : ∀ (l : List Nat) (M M' : Mem) (i : Nat), M.get i = M'.get i → (ovP β l M).get i = (ovP β l M').get i
  | [], _, _, _, h => h
  | j :: r, M, M', i, h => ovP_get r _ _ i (by simp only [Mem.put, Mem.get, assoc_insert] at h ⊢; split <;> simp_all)
theorem ovP_other {β : Nat → Blk} : ∀ (l : List Nat) (M : Mem) (i : Nat), i ∉ l → (ovP β l M).get i = M.get i
  | [], _, _, _ => rfl
  | j :: r, M, i, h => by
    rw [ovP, ovP_other r _ i (fun h2 => h (List.mem_cons_of_mem _ h2))]
    simp only [Mem.put, Mem.get, assoc_insert]
    rw [if_neg (fun e => h (by rw [e]; exact List.mem_cons_self ..))]
theorem ovP_congr {β γ : Nat → Blk} : ∀ (l : List Nat) (M : Mem), (∀ i ∈ l, β i = γ i) → ovP β l M = ovP γ l M
  | [], _, _ => rfl
  | j :: r, M, h => by
    rw [ovP, ovP, h j (List.mem_cons_self ..)]
    exact ovP_congr r _ fun i hi => h i (List.mem_cons_of_mem _ hi)
theorem get_put' {M : Mem} {i j : Nat} {b : Blk} : (M.put i b).get j = if i = j then some b else M.get j := by simp only [Mem.put, Mem.get, assoc_insert]

section
variable (hv xs : List Nat) (fb eb : Nat → Blk) (mA : Nat → Mem)
/-- The memory by what is done: a step of class 1 sets it; one of class 4 makes its block. -/
def stp (S : Nat → Bool) (i : Nat) (z : Mem) : Mem :=
  bif Nat.beq (hv.getD i 0) 1 then (bif S i then mA (i + 1) else z) else bif Nat.beq (hv.getD i 0) 4 then z.put (xs.getD i 0) (bif S i then fb i else eb i) else z
def fol (S : Nat → Bool) : Nat → Nat → Mem → Mem
  | _, 0, z => z
  | i, n + 1, z => fol S (i + 1) n (stp hv xs fb eb mA S i z)
def pdF : Nat → Nat → List Nat
  | _, 0 => []
  | i, n + 1 => bif Nat.beq (hv.getD i 0) 4 then xs.getD i 0 :: pdF (i + 1) n else pdF (i + 1) n
end
section
variable {hv xs : List Nat} {fb eb : Nat → Blk} {mA : Nat → Mem}
theorem fol_split (S : Nat → Bool) : ∀ (n i m : Nat) (z : Mem), fol hv xs fb eb mA S i (n + m) z = fol hv xs fb eb mA S (i + n) m (fol hv xs fb eb mA S i n z)
  | 0, i, m, z => by simp [fol]
  | n + 1, i, m, z => by
    rw [show n + 1 + m = (n + m) + 1 by omega, fol, fol, fol_split S n (i + 1) m, show i + 1 + n = i + (n + 1) by omega]
theorem fol_congr (S S' : Nat → Bool) : ∀ (n i : Nat) (z : Mem), (∀ j, i ≤ j → j < i + n → hv.getD j 0 = 1 ∨ hv.getD j 0 = 4 → S j = S' j) → fol hv xs fb eb mA S i n z = fol hv xs fb eb mA S' i n z
  | 0, _, _, _ => rfl
  | n + 1, i, z, h => by
    rw [fol, fol, fol_congr S S' n (i + 1) _ fun j h1 h2 => h j (by omega) (by omega)]
    congr 1
    unfold stp
    cases e1 : Nat.beq (hv.getD i 0) 1 with
    | true => rw [h i (by omega) (by omega) (.inl (Nat.eq_of_beq_eq_true e1))]
    | false =>
      cases e4 : Nat.beq (hv.getD i 0) 4 with
      | true => rw [h i (by omega) (by omega) (.inr (Nat.eq_of_beq_eq_true e4))]
      | false => rfl
theorem beq_of {a b : Nat} (h : a = b) : Nat.beq a b = true := by subst h; exact Nat.beq_refl a
/-- The blocks set aside, from a step on, by what is done of the rest. -/
theorem fol_ov {β : Nat → Blk} (S : Nat → Bool) : ∀ (n i : Nat) (z : Mem), (∀ j, i ≤ j → j < i + n → hv.getD j 0 = 1 → S j = false) →
    (∀ j, i ≤ j → j < i + n → hv.getD j 0 = 4 → β (xs.getD j 0) = bif S j then fb j else eb j) → fol hv xs fb eb mA S i n z = ovP β (pdF hv xs i n) z
  | 0, _, _, _, _ => rfl
  | n + 1, i, z, h, hb => by
    rw [fol, pdF, fol_ov S n (i + 1) _ (fun j h1 h2 => h j (by omega) (by omega)) (fun j h1 h2 => hb j (by omega) (by omega))]
    unfold stp
    cases e1 : Nat.beq (hv.getD i 0) 1 with
    | true =>
      rw [h i (by omega) (by omega) (Nat.eq_of_beq_eq_true e1)]
      have : Nat.beq (hv.getD i 0) 4 = false := by rw [Nat.eq_of_beq_eq_true e1]; rfl
      simp only [this, cond_true, cond_false]
    | false =>
      cases e4 : Nat.beq (hv.getD i 0) 4 with
      | true =>
        simp only [cond_true, cond_false]
        rw [ovP, hb i (by omega) (by omega) (Nat.eq_of_beq_eq_true e4)]
      | false => simp only [cond_false]
theorem pdF_mem : ∀ (n i : Nat) (x : Nat), x ∈ pdF hv xs i n → ∃ j, i ≤ j ∧ j < i + n ∧ hv.getD j 0 = 4 ∧ xs.getD j 0 = x
  | 0, _, _, h => by cases h
  | n + 1, i, x, h => by
    unfold pdF at h
    cases e4 : Nat.beq (hv.getD i 0) 4 with
    | true =>
      rw [e4] at h
      rcases List.mem_cons.1 h with h | h
      · exact ⟨i, by omega, by omega, Nat.eq_of_beq_eq_true e4, h.symm⟩
      · obtain ⟨j, h1, h2, h3⟩ := pdF_mem n (i + 1) x h
        exact ⟨j, by omega, by omega, h3⟩
    | false =>
      rw [e4] at h
      obtain ⟨j, h1, h2, h3⟩ := pdF_mem n (i + 1) x h
      exact ⟨j, by omega, by omega, h3⟩
end

/-- A step, by its class: as ahead, but for 4: a variable comes to be, on the name x; 5: a literal of no elements, on the name x. -/
structure Step4 (P : Program) (tab : Tab) (ops : Array Oper) (N : Nat) (pd : List Nat) (c x : Nat) (o : Oper) (sl : Slots) (M : Mem) (r : AV) (M' : Mem) (fb : Blk) : Prop where
  dst : ∀ d, o.dst = some d → d < N
  go : ∃ b, Gd ops N sl o.guard b ∧ (b = true → c = 1 → ∀ β, opX P tab ⟨sl, ovP β pd M, N⟩ (fun a M2 => a = r ∧ M2 = ovP β pd M') o.op) ∧
    (b = true → c = 2 → M' = M ∧ ∀ β, opX P tab ⟨sl, ovP β pd M, N⟩ (fun a M2 => a = r ∧ M2 = ovP β pd M) o.op) ∧
    (c = 4 → b = true ∧ M' = M.put x fb ∧ r = .p x 0 0 1 ∧ ∃ T ti, o.op = .alloc T ∧ assoc tab T = some ti ∧ (ti.k.agg = true ∨ 0 < ti.sz) ∧ Cells (zeroAV ti) ∧ fb = ⟨T, (zeroAV ti).cells.length, [zeroAV ti]⟩) ∧
    (b = true → c = 5 → M' = M ∧ r = .s x 0 0 ∧ ∃ T tt e ti, o.op = .buildSlice T 0 #[] ∧ assoc tab T = some tt ∧ tt.k = .sl e ∧ assoc tab e = some ti) ∧
    (b = true → c ≠ 1 → c ≠ 2 → c ≠ 4 → c ≠ 5 → M' = M ∧ ∀ M0, opZ P tab ⟨sl, M0, N⟩ (fun a M2 => a = r ∧ M2 = M0) o.op) ∧ (b = false → r = .t [] ∧ M' = M)
def Trace4 (P : Program) (tab : Tab) (ops : Array Oper) (N : Nat) (l : List Oper) (hv xs : List Nat) (sl : Slots) (M : Mem) (K : ASt → Prop) : Prop :=
  ∃ (slA : Nat → Slots) (mA : Nat → Mem) (rA : Nat → AV) (fb : Nat → Blk), slA 0 = sl ∧ mA 0 = M ∧
    (∀ i (h : i < l.length), Step4 P tab ops N (pdF hv xs (i + 1) (l.length - (i + 1))) (hv.getD i 0) (xs.getD i 0) l[i] (slA i) (mA i) (rA i) (mA (i + 1)) (fb i) ∧ slA (i + 1) = putO (slA i) l[i].dst (rA i)) ∧ K ⟨slA l.length, mA l.length, N⟩
def mclash4 (c d : Nat) : Bool := mclash c d || (c == 4 && (d == 1 || d == 2))
def conf4 (ops : Array Oper) (hv xs : List Nat) (anc : List (List Nat)) : Bool :=
  (List.range ops.size).all fun j => (List.range j).all fun i => ((anc.getD j []).contains i || match ops[i]?, ops[j]? with
    | some x, some y => x.apart ops y && !(mclash4 (hv.getD i 0) (hv.getD j 0))
    | _, _ => false) && !(hv.getD i 0 == 4 && hv.getD j 0 == 4 && xs.getD i 0 == xs.getD j 0)
/-- The names are those set aside. -/
def idOk (n : Nat) (hv xs : List Nat) (k r : Nat) : Bool := (List.range n).all fun i => !(hv.getD i 0 == 4 || hv.getD i 0 == 5) || (Nat.ble k (xs.getD i 0) && Nat.blt (xs.getD i 0) (k + r))
def drawOk4 (ops : Array Oper) (hv xs : List Nat) (anc : List (List Nat)) : Bool := ancOk ops anc && conf4 ops hv xs anc
section
variable {P : Program} {tab : Tab} {ops : Array Oper} {hv xs : List Nat} {anc : List (List Nat)}
theorem conf4_spec (h : conf4 ops hv xs anc = true) {i j : Nat} {x y : Oper} (hij : i < j) (hx : ops[i]? = some x) (hy : ops[j]? = some y) :
    (i ∈ anc.getD j [] ∨ (x.apart ops y = true ∧ mclash4 (hv.getD i 0) (hv.getD j 0) = false)) ∧ (hv.getD i 0 = 4 → hv.getD j 0 = 4 → xs.getD i 0 ≠ xs.getD j 0) := by
  have hj : j < ops.size := (Array.getElem?_eq_some_iff.1 hy).1
  have := List.all_eq_true.1 (List.all_eq_true.1 h j (List.mem_range.2 hj)) i (List.mem_range.2 hij)
  simp only [hx, hy, Bool.or_eq_true, Bool.and_eq_true, List.contains_iff_mem, Bool.not_eq_true'] at this
  refine ⟨?_, fun h1 h2 h3 => ?_⟩
  · rcases this.1 with h | ⟨h1, h2⟩
    · exact .inl h
    · exact .inr ⟨h1, h2⟩
  · have := this.2
    rw [h1, h2, h3] at this
    simp at this

theorem draw_sound4 (hm : P.follows .mixedOrders = true) (hT : TabOk P tab) (hd : drawOk4 ops hv xs anc = true) {id : Nat} {KE : Exit → ASt → Prop} {s : ASt} (rs : List (TypeId × Nat)) (hids : idOk ops.size hv xs s.m.k rs.length = true)
    (h : Trace4 P tab ops s.N ops.toList hv xs s.sl (resv s.m rs) (KE .normal)) : ACode P (.region id ops true) KE s := by
  intro ro w0 E00 D a0 hs
  obtain ⟨slA, mA, rA, fb, e1, e2, e3, e4⟩ := h
  simp only [drawOk4, Bool.and_eq_true] at hd
  obtain ⟨ha, hcf⟩ := hd
  obtain ⟨g0, l0⟩ := hs.g.drawn (E00.w.drawn + 1)
  obtain ⟨E0, w1, w2, w3, w4, w5, w6⟩ := g0.resv rs
  have hlen : ops.toList.length = ops.size := by simp
  have hstep : ∀ i o, ops[i]? = some o → Step4 P tab ops s.N (pdF hv xs (i + 1) (ops.size - (i + 1))) (hv.getD i 0) (xs.getD i 0) o (slA i) (mA i) (rA i) (mA (i + 1)) (fb i) ∧ slA (i + 1) = putO (slA i) o.dst (rA i) := fun i o ho => by
    obtain ⟨hi, rfl⟩ := Array.getElem?_eq_some_iff.1 ho
    have := e3 i (by rw [hlen]; exact hi)
    simpa using this
  let eb : Nat → Blk := fun i => ((resv s.m rs).get (xs.getD i 0)).getD default
  have hidr : ∀ i, i < ops.size → hv.getD i 0 = 4 ∨ hv.getD i 0 = 5 → E00.k ≤ xs.getD i 0 ∧ xs.getD i 0 < E00.k + rs.length := fun i hi hc => by
    have := List.all_eq_true.1 hids i (List.mem_range.2 hi)
    rw [hs.g.k] at this
    rcases hc with hc | hc <;> rw [hc] at this <;> simp at this <;> exact ⟨this.1, this.2⟩
  have heb : ∀ i, i < ops.size → hv.getD i 0 = 4 → ∃ T sz, eb i = ⟨T, sz, []⟩ ∧ (resv s.m rs).get (xs.getD i 0) = some (eb i) := fun i hi hc => by
    obtain ⟨h1, h2⟩ := hidr i hi (.inl hc)
    obtain ⟨⟨T, sz, h3⟩, _⟩ := w6 _ h1 h2
    exact ⟨T, sz, by simp only [eb, h3, Option.getD_some], by simp only [eb, h3, Option.getD_some]⟩
  have hlit : ∀ i, i < ops.size → hv.getD i 0 = 5 → ∀ A, Rep E0 (.s (xs.getD i 0) 0 0) (.slice A 0 0) := fun i hi hc A => by
    obtain ⟨h1, h2⟩ := hidr i hi (.inr hc)
    obtain ⟨_, sz, h3⟩ := w6 _ h1 h2
    refine .s _ _ _ _ _ (by rw [w4]; exact h2) fun q hq => ?_
    rw [h3] at hq
    cases hq
    exact ⟨Nat.le_refl _, fun _ => ⟨rfl, fun h => absurd h (by simp)⟩⟩
  -- what is written, by temporaries; what the memory is
  let dstA : Nat → Option Tmp := fun i => (ops[i]?).bind (·.dst)
  let wl : Nat → List (Bool × AV) := fun t => (List.range ops.size).map fun i => (dstA i == some t, rA i)
  let val : (Nat → Bool) → Nat → AV := fun S t => lastW (Slots.get s.sl t) (wl t) 0 S
  let mem : (Nat → Bool) → Mem := fun S => fol hv xs fb eb mA S 0 ops.size (resv s.m rs)
  have wlen : ∀ t, (wl t).length = ops.size := fun t => by simp [wl]
  have wget : ∀ t j (hj : j < (wl t).length), (wl t)[j] = (dstA j == some t, rA j) := fun t j hj => by simp [wl]
  have vcong : ∀ S S' t, (∀ j, j < ops.size → dstA j = some t → S j = S' j) → val S t = val S' t := fun S S' t hh =>
    lastW_congr _ _ 0 S S' fun j hj hf => by
      rw [wget] at hf
      rw [Nat.zero_add]
      exact hh j (by rw [← wlen t]; exact hj) (by simpa using hf)
  have mcong : ∀ S S', (∀ j, j < ops.size → hv.getD j 0 = 1 ∨ hv.getD j 0 = 4 → S j = S' j) → mem S = mem S' := fun S S' hh =>
    fol_congr S S' _ _ _ fun j _ hj => hh j (by omega)
  have vis : ∀ S t i, i < ops.size → dstA i = some t → S i = true → (∀ j, j < ops.size → i < j → dstA j = some t → S j = false) → val S t = rA i := fun S t i hi hdi hS hh => by
    have := lastW_is (wl t) (Slots.get s.sl t) 0 S i (by rw [wlen]; exact hi) (by rw [wget]; simpa using hdi) (by rw [Nat.zero_add]; exact hS) fun j hj hij hf => by
      rw [wget] at hf
      rw [Nat.zero_add]
      exact hh j (by rw [← wlen t]; exact hj) hij (by simpa using hf)
    rw [wget] at this
    exact this
  have canon : ∀ i, i ≤ ops.size → (∀ t, Slots.get (slA i) t = val (fun j => decide (j < i)) t) := by
    intro i
    induction i with
    | zero =>
      intro _ t
      rw [e1]; exact (lastW_none _ _ 0 _ fun j _ _ => by simp).symm
    | succ i ih =>
      intro hi t
      have ih1 := ih (by omega)
      have ho : ops[i]? = some ops[i] := Array.getElem?_eq_getElem (by omega)
      have hda : dstA i = ops[i].dst := by simp [dstA, ho]
      obtain ⟨k1, k2⟩ := hstep i _ ho
      rw [k2, get_putO]
      by_cases hdt : ops[i].dst = some t
      · rw [if_pos hdt]
        exact (vis _ t i (by omega) (by rw [hda]; exact hdt) (by simp) fun j hj hij _ => by simp; omega).symm
      · rw [if_neg hdt, ih1]
        refine vcong _ _ t fun j hj hdj => ?_
        have : j ≠ i := fun e => hdt (by rw [← hda, ← e]; exact hdj)
        exact decide_eq_decide.2 (by omega)
  -- all ahead is done: the memory is the walk's
  have pre : ∀ i, i ≤ ops.size → ∀ S : Nat → Bool, (∀ j, j < i → hv.getD j 0 = 1 ∨ hv.getD j 0 = 4 → S j = true) → fol hv xs fb eb mA S 0 i (resv s.m rs) = mA i := by
    intro i
    induction i with
    | zero => intro _ S _; exact e2.symm
    | succ i ih =>
      intro hi S hS
      rw [fol_split S i 0 1, ih (by omega) S fun j hj => hS j (by omega), Nat.zero_add]
      show stp hv xs fb eb mA S i (mA i) = mA (i + 1)
      have ho : ops[i]? = some ops[i] := Array.getElem?_eq_getElem (by omega)
      obtain ⟨b, _, _, k2, k4, k5, k0, kn⟩ := (hstep i _ ho).1.go
      unfold stp
      cases c1 : Nat.beq (hv.getD i 0) 1 with
      | true => rw [hS i (by omega) (.inl (Nat.eq_of_beq_eq_true c1))]; rfl
      | false =>
        have n1 : hv.getD i 0 ≠ 1 := fun e => by rw [beq_of e] at c1; cases c1
        cases c4 : Nat.beq (hv.getD i 0) 4 with
        | true =>
          have h4 := Nat.eq_of_beq_eq_true c4
          rw [hS i (by omega) (.inr h4)]
          exact (k4 h4).2.1.symm
        | false =>
          have n4 : hv.getD i 0 ≠ 4 := fun e => by rw [beq_of e] at c4; cases c4
          simp only [cond_false]
          cases b with
          | false => exact (kn rfl).2.symm
          | true =>
            by_cases n2 : hv.getD i 0 = 2
            · exact (k2 rfl n2).1.symm
            · by_cases n5 : hv.getD i 0 = 5
              · exact (k5 rfl n5).1.symm
              · exact (k0 rfl n1 n2 n4 n5).1.symm
  have suf : ∀ i, i ≤ ops.size → ∀ S z, fol hv xs fb eb mA S 0 ops.size z = fol hv xs fb eb mA S i (ops.size - i) (fol hv xs fb eb mA S 0 i z) := fun i hi S z => by
    have := fol_split (hv := hv) (xs := xs) (fb := fb) (eb := eb) (mA := mA) S i 0 (ops.size - i) z
    rw [show i + (ops.size - i) = ops.size by omega, Nat.zero_add] at this
    exact this
  -- the orders
  let Q : Exit → Act → World → Prop := fun ex a' w' => ∃ E' s', E'.w = w' ∧ St w0 E' D s' a' ∧ Later E00 E' ∧ KE ex s'
  let Inv : (Nat → Bool) → Act → World → Prop := fun S a w => ∃ E, E.w = w ∧ Good w0 E (mem S) ∧ (∀ t, Rep E (val S t) (a.tmps.getD t undef)) ∧ a.tmps.size = s.N ∧ a.defers = D ∧ Later E0 E
  have hready : ∀ (listed : Array Bool), listed.size = ops.size → Region.ready .any ops listed = [] → ∀ i, i < ops.size → listed.getD i false = true := by
    intro listed hsz hr i
    induction i using Nat.strongRecOn with
    | _ i ih =>
      intro hi
      cases hl : listed.getD i false with
      | true => rfl
      | false =>
        have ho : ops[i]? = some ops[i] := Array.getElem?_eq_getElem hi
        have hmem : i ∈ Region.ready .any ops listed := mem_ready.2 ⟨by
          have : listed.getD i true = listed.getD i false := by simp [hsz, hi]
          rw [this]; exact hl, _, ho, fun e he hb => ih e.on ((anc_edges ha ho).1 e he hb) (by have := (anc_edges ha ho).1 e he hb; omega)⟩
        rw [hr] at hmem
        cases hmem
  have fin : ∀ (listed : Array Bool) (a : Act) (w : World), (∀ i, i < ops.size → listed.getD i false = true) → Inv (fun j => listed.getD j false) a w → Q .normal a w := by
    rintro listed a w hall ⟨E, rfl, g1, g2, g3, g4, g5⟩
    have c1 := canon ops.size (Nat.le_refl _)
    rw [hlen] at e4
    refine ⟨E, ⟨slA ops.size, mA ops.size, s.N⟩, rfl, ⟨?_, fun t => ?_, g3, g4⟩, (l0.trans w3).trans g5, e4⟩
    · rw [← pre ops.size (Nat.le_refl _) (fun j => listed.getD j false) fun j hj _ => hall j hj]
      exact g1
    · rw [c1, vcong _ (fun j => listed.getD j false) t fun j hj _ => by rw [hall j hj]; simp [hj]]
      exact g2 t
  have step : ∀ (listed : Array Bool) (a : Act) (w : World) (i : Nat) (K : Act → World → Prop), listed.size = ops.size → Closed ops (fun j => listed.getD j false) → Inv (fun j => listed.getD j false) a w →
      i ∈ Region.ready .any ops listed → (∀ a' w', Inv (fun j => (listed.setIfInBounds i true).getD j false) a' w' → K a' w') → wpOpIn (FF ro) 0 P ops Q i K a w := by
    rintro listed a w i K hsz hcl ⟨E, rfl, g1, g2, g3, g4, g5⟩ hi hK
    obtain ⟨hun0, o, ho, hall⟩ := mem_ready.1 hi
    have hin : i < ops.size := (Array.getElem?_eq_some_iff.1 ho).1
    have hun : listed.getD i false = false := by
      have : listed.getD i true = listed.getD i false := by simp [hsz, hin]
      rw [← this]; exact hun0
    have hda : dstA i = o.dst := by simp [dstA, ho]
    have hanc := anc_closed ha hcl i ho hall
    have hS' : ∀ j, (listed.setIfInBounds i true).getD j false = if j = i then true else listed.getD j false := fun j => by
      by_cases e : j = i
      · subst e; simp [hsz, hin]
      · rw [if_neg e, getD_set_ne false (Ne.symm e)]
    -- nobody behind whom it matters to is done yet
    have hlate : ∀ j y, i < j → ops[j]? = some y → i ∈ anc.getD j [] → listed.getD j false = false := fun j y hij hy hja => by
      cases hl : listed.getD j false with
      | false => rfl
      | true =>
        have := anc_closed ha hcl j hy (hcl j y hy hl) i hja
        rw [hun] at this
        cases this
    have hread : ∀ t, t ∈ o.looksAt ops → val (fun j => listed.getD j false) t = Slots.get (slA i) t := fun t ht => by
      rw [canon i (by omega)]
      refine vcong _ _ t fun j hj hdj => ?_
      have hy : ops[j]? = some ops[j] := Array.getElem?_eq_getElem hj
      have hdj' : ops[j].dst = some t := by simpa [dstA, hy] using hdj
      rcases Nat.lt_trichotomy j i with h1 | h1 | h1
      · rcases (conf4_spec hcf h1 hy ho).1 with h2 | ⟨h2, _⟩
        · rw [hanc j h2]; simp [h1]
        · exact absurd ht ((Oper.apart_spec h2).1 t hdj')
      · subst h1; rw [hun]; simp
      · rcases (conf4_spec hcf h1 ho hy).1 with h2 | ⟨h2, _⟩
        · rw [hlate j _ h1 hy h2]; simp; omega
        · exact absurd ht ((Oper.apart_spec h2).2.2 t hdj')
    let βS : Nat → Blk := fun x => match (List.range ops.size).find? (fun j => hv.getD j 0 == 4 && xs.getD j 0 == x) with
      | some j => bif listed.getD j false then fb j else eb j
      | none => default
    have hβ : ∀ j, j < ops.size → hv.getD j 0 = 4 → βS (xs.getD j 0) = bif listed.getD j false then fb j else eb j := fun j hj hc => by
      simp only [βS]
      cases hf : (List.range ops.size).find? (fun j' => hv.getD j' 0 == 4 && xs.getD j' 0 == xs.getD j 0) with
      | none =>
        have := List.find?_eq_none.1 hf j (List.mem_range.2 hj)
        rw [hc] at this
        simp at this
      | some j' =>
        have h1 := List.find?_some hf
        have h2 := List.mem_range.1 (List.mem_of_find?_eq_some hf)
        simp only [Bool.and_eq_true, beq_iff_eq] at h1
        have hy : ops[j]? = some ops[j] := Array.getElem?_eq_getElem hj
        have hy' : ops[j']? = some ops[j'] := Array.getElem?_eq_getElem h2
        rcases Nat.lt_trichotomy j j' with h3 | h3 | h3
        · exact absurd h1.2.symm ((conf4_spec hcf h3 hy hy').2 hc h1.1)
        · rw [h3]
        · exact absurd h1.2 ((conf4_spec hcf h3 hy' hy).2 h1.1 hc)
    -- a step that looks at the memory: nothing of class 1 is done behind it, all ahead is
    have hmemr : (hv.getD i 0 = 1 ∨ hv.getD i 0 = 2) → mem (fun j => listed.getD j false) = ovP βS (pdF hv xs (i + 1) (ops.size - (i + 1))) (mA i) := fun hvi => by
      have hlook : ∀ j, j < i → hv.getD j 0 = 1 ∨ hv.getD j 0 = 4 → listed.getD j false = true := fun j hj hc => by
        have hy : ops[j]? = some ops[j] := Array.getElem?_eq_getElem (by omega)
        rcases (conf4_spec hcf hj hy ho).1 with h2 | ⟨_, h2⟩
        · exact hanc j h2
        · rcases hvi with hvi | hvi <;> rcases hc with hc | hc <;> rw [hc, hvi] at h2 <;> exact absurd h2 (by decide)
      have hnot : ∀ j, i < j → j < ops.size → hv.getD j 0 = 1 → listed.getD j false = false := fun j hij hj hc => by
        have hy : ops[j]? = some ops[j] := Array.getElem?_eq_getElem hj
        rcases (conf4_spec hcf hij ho hy).1 with h2 | ⟨_, h2⟩
        · exact hlate j _ hij hy h2
        · rcases hvi with hvi | hvi <;> rw [hc, hvi] at h2 <;> exact absurd h2 (by decide)
      simp only [mem]
      rw [suf i (by omega), pre i (by omega) _ hlook]
      obtain ⟨n, hn⟩ : ∃ n, ops.size - i = n + 1 := ⟨ops.size - i - 1, by omega⟩
      rw [hn, fol]
      have hstp : stp hv xs fb eb mA (fun j => listed.getD j false) i (mA i) = mA i := by
        unfold stp
        simp only [hun]
        rcases hvi with hvi | hvi <;> rw [hvi] <;> rfl
      rw [hstp, show ops.size - (i + 1) = n by omega]
      exact fol_ov _ n (i + 1) _ (fun j h1 h2 h3 => hnot j (by omega) (by omega) h3) fun j h1 h2 h3 => hβ j (by omega) h3
    have hval' : ∀ t, val (fun j => (listed.setIfInBounds i true).getD j false) t = if o.dst = some t then rA i else val (fun j => listed.getD j false) t := fun t => by
      by_cases hdt : o.dst = some t
      · rw [if_pos hdt]
        refine vis _ t i hin (by rw [hda]; exact hdt) (by rw [hS', if_pos rfl]) fun j hj hij hdj => ?_
        rw [hS', if_neg (by omega)]
        have hy : ops[j]? = some ops[j] := Array.getElem?_eq_getElem hj
        have hdj' : ops[j].dst = some t := by simpa [dstA, hy] using hdj
        rcases (conf4_spec hcf hij ho hy).1 with h2 | ⟨h2, _⟩
        · exact hlate j _ hij hy h2
        · exact absurd hdj' ((Oper.apart_spec h2).2.1 t hdt)
      · rw [if_neg hdt]
        refine vcong _ _ t fun j hj hdj => ?_
        have : j ≠ i := fun e => hdt (by rw [← hda, ← e]; exact hdj)
        rw [hS', if_neg this]
    have hmem1 : hv.getD i 0 = 1 → mem (fun j => (listed.setIfInBounds i true).getD j false) = ovP βS (pdF hv xs (i + 1) (ops.size - (i + 1))) (mA (i + 1)) := fun hvi => by
      have hlook : ∀ j, j < i + 1 → hv.getD j 0 = 1 ∨ hv.getD j 0 = 4 → (listed.setIfInBounds i true).getD j false = true := fun j hj hc => by
        rw [hS']
        split
        · rfl
        · rename_i hne
          have hy : ops[j]? = some ops[j] := Array.getElem?_eq_getElem (by omega)
          rcases (conf4_spec hcf (show j < i by omega) hy ho).1 with h2 | ⟨_, h2⟩
          · exact hanc j h2
          · rcases hc with hc | hc <;> rw [hc, hvi] at h2 <;> exact absurd h2 (by decide)
      simp only [mem]
      rw [suf (i + 1) (by omega), pre (i + 1) (by omega) _ hlook]
      refine fol_ov _ _ (i + 1) _ (fun j h1 h2 h3 => ?_) fun j h1 h2 h3 => ?_
      · rw [hS', if_neg (by omega)]
        have hy : ops[j]? = some ops[j] := Array.getElem?_eq_getElem (by omega)
        rcases (conf4_spec hcf (show i < j by omega) ho hy).1 with h2 | ⟨_, h2⟩
        · exact hlate j _ (by omega) hy h2
        · rw [h3, hvi] at h2; exact absurd h2 (by decide)
      · rw [hβ j (by omega) h3, hS', if_neg (by omega)]
    have hmemn : hv.getD i 0 ≠ 1 → hv.getD i 0 ≠ 4 → mem (fun j => (listed.setIfInBounds i true).getD j false) = mem (fun j => listed.getD j false) := fun h1 h4 => by
      refine mcong _ _ fun j hj hvj => ?_
      have : j ≠ i := fun e => by rw [e] at hvj; rcases hvj with h | h <;> contradiction
      rw [hS', if_neg this]
    -- a variable comes to be
    have hmem4 : hv.getD i 0 = 4 → (mem (fun j => listed.getD j false)).get (xs.getD i 0) = some (eb i) ∧ (mem (fun j => (listed.setIfInBounds i true).getD j false)).k = (mem (fun j => listed.getD j false)).k ∧
        ∀ x, (mem (fun j => (listed.setIfInBounds i true).getD j false)).get x = ((mem (fun j => listed.getD j false)).put (xs.getD i 0) (fb i)).get x := fun hvi => by
      have hnot : ∀ j, i < j → j < ops.size → hv.getD j 0 = 1 → listed.getD j false = false := fun j hij hj hc => by
        have hy : ops[j]? = some ops[j] := Array.getElem?_eq_getElem hj
        rcases (conf4_spec hcf hij ho hy).1 with h2 | ⟨_, h2⟩
        · exact hlate j _ hij hy h2
        · rw [hc, hvi] at h2; exact absurd h2 (by decide)
      have hb : Nat.beq (hv.getD i 0) 1 = false := by rw [hvi]; rfl
      have hb4 : Nat.beq (hv.getD i 0) 4 = true := beq_of hvi
      obtain ⟨n, hn⟩ : ∃ n, ops.size - i = n + 1 := ⟨ops.size - i - 1, by omega⟩
      have z0 : fol hv xs fb eb mA (fun j => (listed.setIfInBounds i true).getD j false) 0 i (resv s.m rs) = fol hv xs fb eb mA (fun j => listed.getD j false) 0 i (resv s.m rs) :=
        fol_congr _ _ _ _ _ fun j _ hj _ => by rw [hS', if_neg (by omega)]
      generalize hz : fol hv xs fb eb mA (fun j => listed.getD j false) 0 i (resv s.m rs) = z at z0
      have m1 : mem (fun j => listed.getD j false) = ovP βS (pdF hv xs (i + 1) n) (z.put (xs.getD i 0) (eb i)) := by
        simp only [mem]
        rw [suf i (by omega), hz, hn, fol]
        have : stp hv xs fb eb mA (fun j => listed.getD j false) i z = z.put (xs.getD i 0) (eb i) := by
          unfold stp
          simp only [hb, hb4, hun, cond_true, cond_false]
        rw [this]
        exact fol_ov _ n (i + 1) _ (fun j h1 h2 h3 => hnot j (by omega) (by omega) h3) fun j h1 h2 h3 => hβ j (by omega) h3
      have m2 : mem (fun j => (listed.setIfInBounds i true).getD j false) = ovP βS (pdF hv xs (i + 1) n) (z.put (xs.getD i 0) (fb i)) := by
        simp only [mem]
        rw [suf i (by omega), z0, hn, fol]
        have : stp hv xs fb eb mA (fun j => (listed.setIfInBounds i true).getD j false) i z = z.put (xs.getD i 0) (fb i) := by
          unfold stp
          simp only [hb, hb4, hS', if_true, cond_true, cond_false]
        rw [this]
        refine fol_ov _ n (i + 1) _ (fun j h1 h2 h3 => ?_) fun j h1 h2 h3 => ?_
        · rw [hS', if_neg (by omega)]; exact hnot j (by omega) (by omega) h3
        · rw [hβ j (by omega) h3, hS', if_neg (by omega)]
      have hnin : xs.getD i 0 ∉ pdF hv xs (i + 1) n := fun hmem => by
        obtain ⟨j, h1, h2, h3, h4⟩ := pdF_mem n (i + 1) _ hmem
        have hy : ops[j]? = some ops[j] := Array.getElem?_eq_getElem (by omega)
        exact (conf4_spec hcf (show i < j by omega) ho hy).2 hvi h3 h4.symm
      refine ⟨?_, ?_, fun x => ?_⟩
      · rw [m1, ovP_other _ _ _ hnin, get_put', if_pos rfl]
      · rw [m1, m2, ovP_k, ovP_k]; rfl
      · rw [get_put', m2]
        split
        · rename_i e
          rw [← e, ovP_other _ _ _ hnin, get_put', if_pos rfl]
        · rename_i e
          rw [m1]
          exact ovP_get _ _ _ x (by rw [get_put', get_put', if_neg e, if_neg e])
    obtain ⟨⟨hdst, b, hgd, hheavy, hlook, hmake, hlit5, hfree, hskip⟩, _⟩ := hstep i o ho
    have hnext : ∀ v E' M', Good w0 E' M' → Later E E' → Rep E' (rA i) v → M' = mem (fun j => (listed.setIfInBounds i true).getD j false) → K (a.put o.dst v) E'.w := fun v E' M' k1 k2 k3 k4 => by
      refine hK _ _ ⟨E', rfl, k4 ▸ k1, fun t => ?_, ?_, ?_, g5.trans k2⟩
      · rw [hval']
        cases hdo : o.dst with
        | none => simp only [Act.put, reduceCtorEq, if_false]; exact (g2 t).later k2
        | some d =>
          have hds : d < a.tmps.size := by rw [g3]; exact hdst d hdo
          by_cases hdt : d = t
          · subst hdt
            simp only [Act.put, if_true]
            have : (a.tmps.setIfInBounds d v).getD d undef = v := by simp [hds]
            rw [this]; exact k3
          · rw [if_neg (by simpa using hdt)]
            have : ((a.put (some d) v).tmps).getD t undef = a.tmps.getD t undef := by simp [Act.put, Array.getElem?_setIfInBounds_ne hdt]
            rw [this]; exact (g2 t).later k2
      · cases o.dst <;> simp [Act.put, g3]
      · cases o.dst <;> exact g4
    have hw : Region.wanted o (yielded ops a.tmps) = b := by
      unfold Region.wanted
      cases hgo : o.guard with
      | none => rw [hgo] at hgd; exact (show b = true from hgd).symm
      | some q =>
        obtain ⟨j, w⟩ := q
        rw [hgo] at hgd
        obtain ⟨d, c, h1, h2, h3, h4⟩ := hgd
        have hdl : d ∈ o.looksAt ops := List.mem_append_right _ (by simp [hgo, h1])
        have hv := g2 d
        rw [hread d hdl] at hv
        have hds : d < a.tmps.size := by rw [g3]; exact h2
        have : a.tmps.getD d undef = a.tmps[d] := by simp [Array.getD, hds]
        rw [this] at hv
        have hy : (yielded ops a.tmps j == some w) = c := by
          unfold yielded
          rw [h1]
          simp only [Option.bind_some, Array.getElem?_eq_getElem hds]
          have := gv_wanted hv h3
          generalize a.tmps[d] = v at this ⊢
          cases v <;> exact this
        rw [h4]; exact hy
    unfold wpOpIn
    simp only [ho]
    rw [hw]
    cases b with
    | false =>
      obtain ⟨k1, k2⟩ := hskip rfl
      simp only [Bool.false_eq_true, if_false]
      refine ⟨fun _ _ => trivial, ?_⟩
      have n4 : hv.getD i 0 ≠ 4 := fun h4 => by cases (hmake h4).1
      refine hnext undef E _ g1 (.refl E) (by rw [k1]; exact rep_undef) ?_
      by_cases hvi : hv.getD i 0 = 1
      · rw [hmem1 hvi, hmemr (.inl hvi), k2]
      · rw [hmemn hvi n4]
    | true =>
      simp only [if_true]
      let ts : List Nat := o.op.operands.toList.filterMap fun | .tmp t => some t | _ => none
      have hts : ∀ t, t ∈ ts → t ∈ o.looksAt ops := fun t ht => List.mem_append_left _ ht
      let L := lkL (val (fun j => listed.getD j false)) ts
      have hevs : ∀ z, z ∈ o.op.operands → ev (slA i) z = ev L z := fun z hz => by
        cases z with
        | tmp t =>
          have ht : t ∈ ts := List.mem_filterMap.2 ⟨.tmp t, by simpa using hz, rfl⟩
          show Slots.get (slA i) t = Slots.get L t
          rw [get_lkL, if_pos ht, hread t (hts t ht)]
        | _ => rfl
      have hst : ∀ M, Good w0 E M → St w0 E D ⟨L, M, s.N⟩ a := fun M hM => ⟨hM, fun t => by
        show Rep E (Slots.get L t) _
        rw [get_lkL]
        split
        · exact g2 t
        · exact .x _, g3, g4⟩
      by_cases hvi : hv.getD i 0 = 1
      · have hop := hheavy rfl hvi βS
        rw [opX_ev (N' := s.N) hevs, ← hmemr (.inl hvi)] at hop
        refine wpIn_of_wp (fun c e => by rw [e] at hop; exact hop) ?_
        exact opX_upon hT (hst _ g1) hop fun v E' M' x' k1 k2 k3 k4 => hnext v E' M' k1 k2 (k4.1 ▸ k3) (by rw [hmem1 hvi]; exact k4.2)
      · by_cases hv2 : hv.getD i 0 = 2
        · have hop := (hlook rfl hv2).2 βS
          rw [opX_ev (N' := s.N) hevs, ← hmemr (.inr hv2)] at hop
          refine wpIn_of_wp (fun c e => by rw [e] at hop; exact hop) ?_
          exact opX_upon hT (hst _ g1) hop fun v E' M' x' k1 k2 k3 k4 => hnext v E' M' k1 k2 (k4.1 ▸ k3) (by rw [hmemn hvi (by rw [hv2]; decide)]; exact k4.2)
        · by_cases hv4 : hv.getD i 0 = 4
          · obtain ⟨_, kM, kr, T, ti, kop, kt, kc, kcc, kfb⟩ := hmake hv4
            obtain ⟨m1, m2, m3⟩ := hmem4 hv4
            obtain ⟨T0, sz0, hb0, _⟩ := heb i hin hv4
            rw [hb0] at m1
            refine wpIn_of_wp (fun c e => by rw [kop] at e; cases e) ?_
            obtain ⟨v, E', M', x', r1, r2, r3, r4, r5, r6⟩ := alloc_at (P := P) g1 (hT _ _ kt) kc kcc m1
            unfold Oper.wp
            obtain ⟨odst, oop, otype, opos, oafter, oguard⟩ := o
            simp only at kop
            subst kop
            have hrun : (execOp a.eval ⟨odst, .alloc T, otype, opos, oafter, oguard⟩).run P E.w = .ok (.value v) E'.w := by
              simp only [execOp, Sem.run_bind, r1, Result.andThen, Sem.run_pure]
            rw [hrun]
            simp only [Oper.upon]
            rw [← kfb] at r6
            exact hnext v E' _ (r2.ext (by rw [m2, r6]; rfl) fun x => by rw [m3, r6]) r3 (by rw [kr, ← r5]; exact r4) rfl
          · by_cases hv5 : hv.getD i 0 = 5
            · obtain ⟨kM, kr, T, tt, e, ti, kop, k1, k2, k3⟩ := hlit5 rfl hv5
              have hS := (hT _ _ k1).k
              rw [k2] at hS
              obtain ⟨A, w', r1, r2, r3⟩ := empty_at (P := P) g1 hS (hT _ _ k3)
              refine wpIn_of_wp (fun c e => by rw [kop] at e; cases e) ?_
              unfold Oper.wp
              obtain ⟨odst, oop, otype, opos, oafter, oguard⟩ := o
              simp only at kop
              subst kop
              have hrun : (execOp a.eval ⟨odst, .buildSlice T 0 #[], otype, opos, oafter, oguard⟩).run P E.w = .ok (.value (.slice A 0 0)) w' := by
                have : ((#[] : Array (Nat × Operand)).map fun (i, x) => (i, a.eval x)) = #[] := by simp
                simp only [execOp, Sem.run_bind, this, r1, Result.andThen, Sem.run_pure]
              rw [hrun]
              simp only [Oper.upon]
              exact hnext (.slice A 0 0) ⟨w', E.ad, E.k, E.hid⟩ _ r2 r3 (by rw [kr]; exact (hlit i hin hv5 A).later (g5.trans r3)) (hmemn hvi hv4).symm
            · have hop := (hfree rfl hvi hv2 hv4 hv5).2 (mem (fun j => listed.getD j false))
              rw [opZ_ev (N' := s.N) hevs] at hop
              refine wpIn_of_wp (fun c e => by rw [e] at hop; exact hop) ?_
              exact opZ_upon hT (hst _ g1) hop fun v E' M' x' k1 k2 k3 k4 => hnext v E' M' k1 k2 (k4.1 ▸ k3) (by rw [hmemn hvi hv4]; exact k4.2)
  have main : ∀ (fuel : Nat) (listed : Array Bool) (a : Act) (w : World), listed.size = ops.size → Closed ops (fun j => listed.getD j false) → ((List.range ops.size).filter fun j => !listed.getD j false).length ≤ fuel →
      Inv (fun j => listed.getD j false) a w → wpAnyIn (FF ro) 0 P .any ops Q fuel listed a w := by
    intro fuel
    induction fuel with
    | zero =>
      intro listed a w hsz hcl hcnt hinv
      have hnil : (List.range ops.size).filter (fun j => !listed.getD j false) = [] := List.eq_nil_of_length_eq_zero (by omega)
      have hall : ∀ i, i < ops.size → listed.getD i false = true := fun i hi => by
        have := List.filter_eq_nil_iff.1 hnil i (List.mem_range.2 hi)
        simpa using this
      refine ⟨?_, fin listed a w hall hinv⟩
      refine List.eq_nil_iff_forall_not_mem.2 fun i hi => ?_
      obtain ⟨h1, o, ho, _⟩ := mem_ready.1 hi
      have hin : i < ops.size := (Array.getElem?_eq_some_iff.1 ho).1
      have h2 := hall i hin
      have : listed.getD i true = listed.getD i false := by simp [hsz, hin]
      rw [this, h2] at h1
      cases h1
    | succ fuel ih =>
      intro listed a w hsz hcl hcnt hinv
      refine ⟨fun hr => fin listed a w (hready listed hsz hr) hinv, fun i hi => step listed a w i _ hsz hcl hinv hi fun a' w' hinv' => ?_⟩
      obtain ⟨h1, o, ho, hall⟩ := mem_ready.1 hi
      have hin : i < ops.size := (Array.getElem?_eq_some_iff.1 ho).1
      have hun : listed.getD i false = false := by
        have : listed.getD i true = listed.getD i false := by simp [hsz, hin]
        rw [← this]; exact h1
      have hS' : ∀ j, (listed.setIfInBounds i true).getD j false = if j = i then true else listed.getD j false := fun j => by
        by_cases e : j = i
        · subst e; simp [hsz, hin]
        · rw [if_neg e, getD_set_ne false (Ne.symm e)]
      refine ih _ a' w' (by simp [hsz]) (fun j y hy hj e he hb => ?_) ?_ hinv'
      · simp only [hS'] at hj ⊢
        by_cases hji : j = i
        · subst hji
          rw [ho] at hy; cases hy
          split
          · rfl
          · exact hall e he hb
        · rw [if_neg hji] at hj
          split
          · rfl
          · exact hcl j y hy hj e he hb
      · have hlt : ((List.range ops.size).filter fun j => !(listed.setIfInBounds i true).getD j false).length < ((List.range ops.size).filter fun j => !listed.getD j false).length :=
          filter_lt _ (fun j _ hj => by
            simp only [hS'] at hj
            split at hj
            · simp at hj
            · exact hj) i (List.mem_range.2 hin) (by simp only [hun]; rfl) (by simp only [hS']; simp)
        omega
  refine wpIn_region_any hm (main ops.size _ a0 _ (by simp) (fun j y _ hj => ?_) ?_ ?_)
  · by_cases h : j < ops.size <;> simp [h] at hj
  · refine Nat.le_trans (List.length_filter_le _ _) (by simp)
  · have h0 : ∀ j, (Array.replicate ops.size false).getD j false = false := fun j => by
      by_cases h : j < ops.size <;> simp [h]
    refine ⟨E0, w1, ?_, fun t => ?_, hs.n, hs.d, .refl E0⟩
    · refine w2.ext ?_ fun x => ?_
      · simp only [mem]
        rw [fol_ov (β := fun x => ((resv s.m rs).get x).getD default) _ _ _ _ (fun j _ _ _ => h0 j) fun j _ _ _ => by rw [h0]; rfl, ovP_k]
      · simp only [mem]
        rw [fol_ov (β := fun x => ((resv s.m rs).get x).getD default) _ _ _ _ (fun j _ _ _ => h0 j) fun j _ _ _ => by rw [h0]; rfl]
        have hall : ∀ x ∈ pdF hv xs 0 ops.size, ∃ b, (resv s.m rs).get x = some b := fun x hx => by
          obtain ⟨j, _, h2, h3, h4⟩ := pdF_mem _ _ _ hx
          obtain ⟨T, sz, _, h5⟩ := heb j (by omega) h3
          exact ⟨_, by rw [← h4]; exact h5⟩
        generalize pdF hv xs 0 ops.size = l at hall
        have : ∀ (l : List Nat) (M : Mem), (∀ y, M.get y = (resv s.m rs).get y) → (∀ x ∈ l, ∃ b, (resv s.m rs).get x = some b) → (ovP (fun x => ((resv s.m rs).get x).getD default) l M).get x = (resv s.m rs).get x := by
          intro l
          induction l with
          | nil => intro M hM _; exact hM x
          | cons y l ih =>
            intro M hM hl
            refine ih _ (fun z => ?_) fun z hz => hl z (List.mem_cons_of_mem _ hz)
            rw [get_put']
            split
            · rename_i e
              obtain ⟨b, hb⟩ := hl y (List.mem_cons_self ..)
              subst e
              simp only [hb, Option.getD_some]
            · exact hM z
        exact this l _ (fun _ => rfl) hall
    · have : val (fun j => (Array.replicate ops.size false).getD j false) t = Slots.get s.sl t := lastW_none _ _ 0 _ fun j _ _ => h0 _
      rw [this]; exact (hs.r t).later (l0.trans w3)
end
end Go.Ab
