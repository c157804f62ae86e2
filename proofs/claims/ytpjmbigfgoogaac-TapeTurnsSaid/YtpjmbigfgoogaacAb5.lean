/- Operations on memory: writing, new variables, addresses. -/
import Derived.Test.YtpjmbigfgoogaacAb4
set_option linter.unusedVariables false
set_option linter.unusedSimpArgs false
set_option linter.constructorNameAsVariable false
namespace Go.Ab
open Go Go.RowKit

def OutU (P : Program) (w0 : World) (E : Env) (s : Sem Unit) (K : Mem → Prop) : Prop :=
  ∃ E' M', s.run P E.w = .ok () E'.w ∧ Good w0 E' M' ∧ Later E E' ∧ K M'

def splice (cs : List AV) (j : Nat) (vs : List AV) : List AV := cs.take j ++ vs ++ cs.drop (j + vs.length)
def mkEl : AV → List AV → AV
  | .g _, l => .g l
  | _, l => l.headD .x
theorem splice_length {cs : List AV} {j : Nat} {vs : List AV} (h : j + vs.length ≤ cs.length) : (splice cs j vs).length = cs.length := by
  simp [splice]; omega
theorem mkEl_cells {el : AV} {cs : List AV} (hc : ∀ a ∈ cs, Cell a) (h : cs.length = el.cells.length) : (mkEl el cs).cells = cs := by
  cases el <;> simp only [mkEl, AV.cells] at h ⊢
  all_goals
    match cs, h with
    | [a], _ =>
      have := hc a (by simp)
      cases a <;> first | rfl | exact this.elim

def storeK (ti : TI) (M : Mem) : AV → AV → (Mem → Prop) → Prop
  | .p id i j n, v, K => blkK M id n fun blk => Cells v ∧ v.cells.length = ti.sz ∧ j + ti.sz ≤ blk.sz ∧ 0 < ti.sz ∧ Elem blk.xs i fun el => (∀ a ∈ el.cells, Cell a) ∧
      K (M.put id ⟨blk.T, blk.sz, blk.xs.set i (mkEl el (splice el.cells j v.cells))⟩)
  | _, _, _ => False

theorem splice_get {cs vs : List AV} {j k : Nat} (h : j + vs.length ≤ cs.length) (hk : k < (splice cs j vs).length) (hk' : k < cs.length) :
    (splice cs j vs)[k] = if h1 : j ≤ k ∧ k < j + vs.length then vs[k - j]'(by omega) else cs[k] := by
  have hkl : k < cs.length := by rw [splice_length h] at hk; exact hk
  simp only [splice]
  split
  · rename_i h1
    rw [List.getElem_append_left (by simp; omega), List.getElem_append_right (by simp; omega)]
    congr 1
    simp; omega
  · rename_i h1
    by_cases h2 : k < j
    · rw [List.getElem_append_left (by simp; omega), List.getElem_append_left (by simp; omega)]
      simp
    · rw [List.getElem_append_right (by simp; omega)]
      simp only [List.getElem_drop]
      congr 1
      simp; omega

theorem take_drop_get? {α : Type} (cur : List α) (o : Nat) (vs : List α) (h : o + vs.length ≤ cur.length) (k : Nat) :
    (cur.take o ++ vs ++ cur.drop (o + vs.length))[k]? = if o ≤ k ∧ k < o + vs.length then vs[k - o]? else cur[k]? := by
  split
  · rename_i h1
    rw [List.getElem?_append_left (by simp; omega), List.getElem?_append_right (by simp; omega)]
    congr 1
    simp; omega
  · rename_i h1
    by_cases h2 : k < o
    · rw [List.getElem?_append_left (by simp; omega), List.getElem?_append_left (by simp; omega), List.getElem?_take_of_lt h2]
    · rw [List.getElem?_append_right (by simp; omega), List.getElem?_drop]
      congr 1
      simp; omega

theorem store_out {P : Program} {w0 : World} {E : Env} {M : Mem} {t : TypeId} {ti : TI} {a x' : AV} {v y : Value} {K : Mem → Prop} (hg : Good w0 E M) (ht : TOk P t ti)
    (hr : Rep E a v) (hx : Rep E x' y) (h : storeK ti M a x' K) : OutU P w0 E (Instr.storeAt t v y) K := by
  cases hr <;> try exact h.elim
  rename_i id i j n a hk hp
  obtain ⟨blk, hM, hn, hcx, hxl, hjs, hts, hi, hcel, hK⟩ := h
  obtain ⟨q, h1, h2, h3, h4, h5⟩ := hg.held id blk hM
  have hcp : 0 < q.cp := by omega
  obtain ⟨hb0, hb⟩ := h5 hcp
  have hlt := backed_lt hb
  obtain ⟨hmax, arr, a1, a2, a3⟩ := hb
  have ha := (hp q h1).2 (by omega)
  subst ha
  obtain ⟨hys, hyr⟩ := hx.cells hcx
  have hcl : blk.xs[i].cells.length = blk.sz := (a3 i hi).1
  have hvl : y.cells.toList.length = ti.sz := by simp [hys, hxl]
  have hle : i * q.sz + j + ti.sz ≤ arr.size := by
    rw [a2, h2]
    have : (i + 1) * blk.sz ≤ q.cp * blk.sz := Nat.mul_le_mul_right _ (by omega)
    rw [Nat.add_mul] at this
    omega
  have hone : ∀ u ∈ y.cells.toList, u.oneCell' = true := fun u hu => by
    obtain ⟨k, hk, rfl⟩ := List.mem_iff_getElem.1 hu
    have hk' : k < y.cells.size := by simpa using hk
    have := (hyr k (by omega) hk').1
    simpa [One] using this
  have hst := run_storeCells_at P q.b (i * q.sz + j) blk.T y.cells.toList 0 arr E.w a1 (by rw [hvl]; simpa using hle) hone
  simp only [Nat.add_zero] at hst
  have hrun : (Instr.storeAt t (.pointer (some ⟨q.b, i * q.sz + j, none⟩)) y).run P E.w = .ok () (E.w.setRow q.b (arr.toList.take (i * q.sz + j) ++ y.cells.toList ++ arr.toList.drop (i * q.sz + j + y.cells.toList.length)).toArray) := by
    simp only [Instr.storeAt, Instr.sureAddr, Sem.run_bind, Result.andThen, storeVar, ht.run_size, Sem.run_pure]
    rw [if_neg (by rw [hys, hxl]; simp)]
    exact hst
  have hA : ∀ k, ((arr.toList.take (i * q.sz + j) ++ y.cells.toList ++ arr.toList.drop (i * q.sz + j + y.cells.toList.length)).toArray)[k]? =
      if i * blk.sz + j ≤ k ∧ k < i * blk.sz + j + ti.sz then y.cells[k - (i * blk.sz + j)]? else arr[k]? := fun k => by
    rw [List.getElem?_toArray, take_drop_get? _ _ _ (by rw [hvl]; simpa using hle), h2, hvl]
    simp
  have hup := Good.upd hg (E.w.setRow q.b (arr.toList.take (i * q.sz + j) ++ y.cells.toList ++ arr.toList.drop (i * q.sz + j + y.cells.toList.length)).toArray) id E.k q
    ⟨blk.T, blk.sz, blk.xs.set i (mkEl blk.xs[i] (splice blk.xs[i].cells j x'.cells))⟩ (Nat.le_refl _) (hg.lt id q h1)
    ⟨hg.below.os, hg.below.tape, hg.below.output, by simpa using hg.below.size, fun k hk => by rw [setRow_other _ _ _ _ (by omega)]; exact hg.below.block k hk⟩
    (by simp) (fun b hb hne => setRow_other _ _ _ _ (fun e => hne q h1 hcp e.symm)) h2 (by simpa using h3) h4 (fun _ => ⟨hb0, .inr ⟨q, h1, hcp, rfl⟩⟩)
    (fun q' hq' => by rw [h1] at hq'; cases hq'; exact ⟨Nat.le_refl _, fun _ => rfl⟩) (fun _ => ⟨q, h1⟩) (fun hl _ => by
      refine ⟨hmax, _, setRow_heap _ _ _ _ _ _ a1, by rw [← a2]; simp; omega, fun i' hi' => ?_⟩
      simp only [List.length_set] at hi'
      have hsp : j + x'.cells.length ≤ blk.xs[i].cells.length := by rw [hcl, hxl]; exact hjs
      have hspc : ∀ a ∈ splice blk.xs[i].cells j x'.cells, Cell a := fun a ha => by
        simp only [splice, List.mem_append] at ha
        rcases ha with (ha | ha) | ha
        · exact hcel a (List.mem_of_mem_take ha)
        · obtain ⟨k, hk, rfl⟩ := List.mem_iff_getElem.1 ha
          have hk2 : k < y.cells.size := by rw [hys]; exact hk
          cases x' <;> simp only [AV.cells] at hk ⊢ <;> first | exact AllCell.get hcx k hk | (have h0 : k = 0 := by simpa using hk); (subst h0; exact hcx)
        · exact hcel a (List.mem_of_mem_drop ha)
      by_cases e : i' = i
      · subst e
        have hmc := mkEl_cells (el := blk.xs[i']) hspc (splice_length hsp)
        simp only [List.getElem_set_self]
        refine ⟨by rw [hmc, splice_length hsp, hcl], fun k hk => ?_⟩
        have hk1 : k < (splice blk.xs[i'].cells j x'.cells).length := by rw [← hmc]; exact hk
        have hk2 : k < blk.xs[i'].cells.length := by rw [splice_length hsp] at hk1; exact hk1
        have hget : (mkEl blk.xs[i'] (splice blk.xs[i'].cells j x'.cells)).cells[k] = (splice blk.xs[i'].cells j x'.cells)[k] := by
          simp only [hmc]
        rw [hget, splice_get hsp hk1 hk2]
        simp only [hA]
        by_cases hin : j ≤ k ∧ k < j + ti.sz
        · have hk3 : k - j < y.cells.size := by rw [hys, hxl]; omega
          rw [dif_pos (by rw [hxl]; exact hin), if_pos (by omega)]
          obtain ⟨g1, g2⟩ := hyr (k - j) (by omega) hk3
          refine ⟨y.cells[k - j], ?_, g1, g2.later hl⟩
          have : i' * blk.sz + k - (i' * blk.sz + j) = k - j := by omega
          rw [this]
          simp [hk3]
        · rw [dif_neg (by rw [hxl]; exact hin), if_neg (by omega)]
          obtain ⟨y0, g0, g1, g2⟩ := (a3 i' hi).2 k hk2
          exact ⟨y0, g0, g1, g2.later hl⟩
      · have hi0 : i' < blk.xs.length := hi'
        simp only [List.getElem_set_ne (Ne.symm e)]
        refine ⟨(a3 i' hi0).1, fun k hk => ?_⟩
        obtain ⟨y0, g0, g1, g2⟩ := (a3 i' hi0).2 k hk
        refine ⟨y0, ?_, g1, g2.later hl⟩
        simp only [hA]
        rw [if_neg (by
          have hks : k < blk.sz := by rw [← (a3 i' hi0).1]; exact hk
          rcases Nat.lt_or_gt_of_ne e with h | h
          · have : (i' + 1) * blk.sz ≤ i * blk.sz := Nat.mul_le_mul_right _ h
            rw [Nat.add_mul] at this
            omega
          · have : (i + 1) * blk.sz ≤ i' * blk.sz := Nat.mul_le_mul_right _ h
            rw [Nat.add_mul] at this
            omega)]
        exact g0)
  refine ⟨_, _, hrun, hup.1, hup.2, ?_⟩
  have : (⟨insert M.l id ⟨blk.T, blk.sz, blk.xs.set i (mkEl blk.xs[i] (splice blk.xs[i].cells j x'.cells))⟩, E.k⟩ : Mem) = M.put id ⟨blk.T, blk.sz, blk.xs.set i (mkEl blk.xs[i] (splice blk.xs[i].cells j x'.cells))⟩ := by
    rw [Mem.put, hg.k]
  rw [this]; exact hK
end Go.Ab
