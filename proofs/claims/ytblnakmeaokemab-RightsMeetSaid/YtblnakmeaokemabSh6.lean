/- Rows: two at a time. -/
import Derived.Test.YtblnakmeaokemabSh5
import Derived.RangeFuncNested
import Derived.RangeFuncBound
import Derived.RangeFuncCalls
import Derived.RangeFuncLeaves
import Derived.RangeFuncBox
import Derived.Shelf.Abstract
import Derived.Shelf.RegionOpen
import Derived.OwnWalkIn
import Derived.TacticsInMore
import Derived.LoopNIn
import Derived.LoopIn
set_option linter.unusedSimpArgs false
set_option linter.unusedVariables false
set_option linter.constructorNameAsVariable false
set_option maxRecDepth 100000
namespace Go.Ab
open Go Go.Proofs Go.RowKit Go.Shelf
attribute [local go_sem] Oper.semAt_some

theorem KZ.put {Z : Nat → Prop} {w : World} (hz : ∀ b, Z b → b < w.heap.size) (W : World) (l : Nat) (o o' : Obj) (hl : w.heap.size ≤ l) (_ : W.heap[l]? = some o) (_ : o.isCells = false) (_ : o.isWalk = false) : KZ Z W (W.putObj l o') :=
  ⟨fun b hb => World.putObj_heap_other (by have := hz b hb; omega)⟩
/-- A slice value that holds whole numbers, in blocks of Z. -/
def Ints (Z : Nat → Prop) (W : World) (A : Option Addr) (zs : List Int) : Prop :=
  0 < zs.length → ∃ b off, A = some ⟨b, off, none⟩ ∧ Z b ∧ ∀ k, k < zs.length → W.cell? ⟨b, off + k, none⟩ = some (.int .i64 (zs.getD k 0))
/-- What pairs hands over. -/
def prs (i u j v : Int) (o p : List Int) (k : Nat) : List (Int × Int) := (i, j) :: (u, v) :: (o.zip p).take k
theorem prs_len {i u j v : Int} {o p : List Int} {k : Nat} (h : k ≤ o.length) (h' : o.length = p.length) : (prs i u j v o p k).length = k + 2 := by
  simp only [prs, List.length_cons, List.length_take, List.length_zip]; omega
theorem prs_succ {i u j v : Int} {o p : List Int} {k : Nat} (h : k < o.length) (h' : o.length = p.length) : prs i u j v o p (k + 1) = prs i u j v o p k ++ [(o.getD k 0, p.getD k 0)] := by
  simp only [prs, List.cons_append]
  congr 2
  have hz : k < (o.zip p).length := by simp; omega
  rw [List.take_add_one, List.getElem?_eq_getElem hz]
  simp only [Option.toList_some, List.getElem_zip, List.getD_eq_getElem?_getD, List.getElem?_eq_getElem h, List.getElem?_eq_getElem (show k < p.length by omega), Option.getD_some]

set_option maxHeartbeats 4000000 in
theorem pairs1_in (n l Ba Bb oa ob : Nat) (hn : 1 ≤ n) (Z : Nat → Prop) (i u j v : Int) (o p : List Int) (A1 A2 : Option Addr) (c1 c2 : Nat) (hlen : o.length = p.length) (hreach : o.length < 1000000000) (J Jx : List (Int × Int) → World → Prop)
    (hY : ∀ pre x W, J pre W → pre.length < o.length + 2 → YieldAt Fence.wide (n - 1) Try.prog l #[.int .i64 x.1, .int .i64 x.2] W fun e W' =>
      (e = .returned (.bool true) ∧ J (pre ++ [x]) W' ∧ KZ Z W W') ∨ (e = .returned (.bool false) ∧ Jx (pre ++ [x]) W'))
    (W : World) (hZa : Z Ba) (hZb : Z Bb)
    (ha0 : W.cell? ⟨Ba, oa, none⟩ = some (.int .i64 i)) (ha1 : W.cell? ⟨Ba, oa + 1, none⟩ = some (.int .i64 u)) (ha2 : W.cell? ⟨Ba, oa + 2, none⟩ = some (.slice A1 o.length c1))
    (hb0 : W.cell? ⟨Bb, ob, none⟩ = some (.int .i64 j)) (hb1 : W.cell? ⟨Bb, ob + 1, none⟩ = some (.int .i64 v)) (hb2 : W.cell? ⟨Bb, ob + 2, none⟩ = some (.slice A2 p.length c2))
    (hA1 : Ints Z W A1 o) (hA2 : Ints Z W A2 p) (h0 : J [] W) :
    CallsIn Fence.wide n Try.prog 56 #[.func (.yield l) #[] #[], .pointer (some ⟨Ba, oa, none⟩), .pointer (some ⟨Bb, ob, none⟩)] W fun e W' => (∃ z, e = .returned z) ∧
      ((∃ ys, ys = prs i u j v o p o.length ∧ J ys W') ∨ (∃ pre, (∃ rest, prs i u j v o p o.length = pre ++ rest) ∧ Jx pre W')) := by
  refine callsIn_of_wp Try.func56 rfl trivial ?_ rfl
  simp only [Try.ntmps56, List.size_toArray, List.length_cons, List.length_nil, Nat.reduceAdd, Nat.reduceSub, Array.replicate_succ, Array.replicate_zero, List.push_toArray, List.append_toArray, List.nil_append, List.cons_append]
  obtain ⟨f1, t1, as1, bd1, hy1, hR1⟩ := hY [] (i, j) W h0 (by simp)
  dsimp only at hy1
  gi_wp2
  refine hR1.mono ?_
  rintro e W1 (⟨rfl, hJ1, hk1⟩ | ⟨rfl, hx1⟩)
  · obtain ⟨f2, t2, as2, bd2, hy2, hR2⟩ := hY [(i, j)] (u, v) W1 hJ1 (by simp)
    dsimp only at hy2
    have ga1 := (hk1.cell hZa (oa + 1)).trans ha1
    have gb1 := (hk1.cell hZb (ob + 1)).trans hb1
    gi_wp2
    refine hR2.mono ?_
    rintro e W2 (⟨rfl, hJ2, hk2⟩ | ⟨rfl, hx2⟩)
    · have hk12 := hk1.trans hk2
      have ga2 := (hk12.cell hZa (oa + 2)).trans ha2
      gi_wp2
      gi_loopw [25] (fun z wr => ∃ k : Nat, k ≤ o.length ∧ z = .int .i64 k ∧ J (prs i u j v o p k) wr ∧ KZ Z W wr)
        (fun z _ => o.length - (intOf z).toNat)
      case atStart => exact ⟨0, Nat.zero_le _, rfl, hJ2, hk12⟩
      case round =>
        obtain ⟨k, hk, rfl, hJs, hnx⟩ := hrel
        by_cases hlt : k < o.length
        · obtain ⟨b1, off1, rfl, z1, hc1⟩ := hA1 (by omega)
          obtain ⟨b2, off2, rfl, z2, hc2⟩ := hA2 (by omega)
          have e1 := (hnx.cell z1 _).trans (hc1 k hlt)
          have e2 := (hnx.cell z2 _).trans (hc2 k (by omega))
          have gb2 := (hnx.cell hZb (ob + 2)).trans hb2
          obtain ⟨fn, tmps, assign, body, hy, hR⟩ := hY _ (o.getD k 0, p.getD k 0) wr hJs (by rw [prs_len (by omega) hlen]; omega)
          simp only [List.getD_eq_getElem?_getD, List.getElem?_eq_getElem hlt, List.getElem?_eq_getElem (show k < p.length by omega), Option.getD_some] at hy
          gi_wp2
          refine hR.mono ?_
          rintro e W3 (⟨rfl, hJ3, hk3⟩ | ⟨rfl, hJx3⟩)
          · gi_wp2
            go_roundw
            case rel => exact ⟨k + 1, by omega, by simp, by rw [prs_succ hlt hlen]; exact hJ3, hnx.trans hk3⟩
            case measure => simp [intOf]; omega
          · gi_wp2
            refine bodyPost_ret (results_none rfl _ _ _) rfl ?_
            exact ⟨⟨_, rfl⟩, .inr ⟨_, ⟨(o.zip p).drop (k + 1), by
              rw [← prs_succ hlt hlen]
              have ht : (o.zip p).take o.length = o.zip p := List.take_of_length_le (by simp; omega)
              simp only [prs, List.cons_append, List.take_append_drop, ht]⟩, hJx3⟩⟩
        · obtain rfl : k = o.length := by omega
          gi_wp2
          go_end0
          exact ⟨⟨_, rfl⟩, .inl ⟨_, rfl, hJs⟩⟩
    · gi_wp2
      refine ⟨rfl, _, results_none rfl _ _ _, ?_⟩
      exact ⟨⟨_, rfl⟩, .inr ⟨_, ⟨_, rfl⟩, hx2⟩⟩
  · gi_wp2
    refine ⟨fun _ h => (by cases h), ?_⟩
    gi_wp2
    refine ⟨rfl, _, results_none rfl _ _ _, ?_⟩
    exact ⟨⟨_, rfl⟩, .inr ⟨_, ⟨_, rfl⟩, hx1⟩⟩
end Go.Ab
