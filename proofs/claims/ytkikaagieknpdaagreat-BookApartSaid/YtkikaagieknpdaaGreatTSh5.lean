/- Rows: what was sent. Rows: two at a time. Rows: behind, by the program. .. -/
import Derived.Test.YtkikaagieknpdaaGreatSh4
import Derived.RangeFuncNested
import Derived.RangeFuncBound
import Derived.RangeFuncCalls
import Derived.RangeFuncLeaves
import Derived.RangeFuncBox
import Derived.Shelf.Abstract
import Derived.Shelf.RegionOpen
import Derived.OwnWalkIn
import Derived.TacticsInMore
import Derived.LoopNIn
import Derived.LoopIn
import Derived.Test.YtkikaagieknpdaaGreatAbG4
set_option linter.unusedSimpArgs false
set_option linter.unusedVariables false
set_option linter.constructorNameAsVariable false
set_option maxRecDepth 100000
open Nat (reduceAdd reduceMul reduceEqDiff reduceLeDiff)
open Int (reduceLE reduceLT reduceEq reduceNe)
namespace Go.Ab
open Go Go.Proofs
theorem sum_snoc {o : List Int} {k : Nat} (h : k < o.length) : (o.take (k + 1)).sum = (o.take k).sum + o.getD k 0 := by
 rw [List.take_add_one, List.getElem?_eq_getElem h, List.getD_eq_getElem?_getD, List.getElem?_eq_getElem h, List.sum_append]
 simp only [Option.toList_some, List.sum_cons, List.sum_nil, Option.getD_some, Int.add_zero]
def Sends (o : List Int) : Prop := o.length ≤ 16 ∧ ∀ v ∈ o, Within v 1125899906842624
instance (o : List Int) : Decidable (Sends o) := by unfold Sends; infer_instance
def sentR (o : List Int) : Int := if Sends o then o.sum else 0
theorem sum_in : ∀ (o : List Int), (∀ v ∈ o, Within v 1125899906842624) → 0 ≤ o.sum ∧ o.sum ≤ o.length * 1125899906842624
 | [], _ => by simp
 | a :: r, h => by
  have h1 := h a (by simp)
  have h2 := sum_in r fun v hv => h v (by simp [hv])
  rw [List.sum_cons, List.length_cons]
  unfold Within at h1
  constructor
  · omega
  · push_cast; omega
theorem within_take {o : List Int} {k : Nat} (h : ∀ j, j < k → j < o.length → Within (o.getD j 0) 1125899906842624) : ∀ v ∈ o.take k, Within v 1125899906842624 := fun v hv => by
 obtain ⟨j, hj, rfl⟩ := List.getElem_of_mem hv
 rw [List.length_take] at hj
 have := h j (by omega) (by omega)
 rw [List.getElem_take]
 rwa [List.getD_eq_getElem?_getD, List.getElem?_eq_getElem (by omega)] at this
theorem sent_bad {o : List Int} {k : Nat} (h : k < o.length) (hb : ¬ Within (o.getD k 0) 1125899906842624) : sentR o = 0 := by
 rw [sentR, if_neg]
 intro hs
 apply hb
 rw [List.getD_eq_getElem?_getD, List.getElem?_eq_getElem h]
 exact hs.2 _ (List.getElem_mem h)
theorem sent_all {o : List Int} (hl : o.length ≤ 16) (h : ∀ j, j < o.length → Within (o.getD j 0) 1125899906842624) : sentR o = o.sum := by
 rw [sentR, if_pos]
 refine ⟨hl, fun v hv => ?_⟩
 obtain ⟨j, hj, rfl⟩ := List.getElem_of_mem hv
 have := h j hj
 rwa [List.getD_eq_getElem?_getD, List.getElem?_eq_getElem hj] at this
theorem sum_bound {o : List Int} {k : Nat} (hl : o.length ≤ 16) (hk : k ≤ o.length) (h : ∀ j, j < k → Within (o.getD j 0) 1125899906842624) : 0 ≤ (o.take k).sum ∧ (o.take k).sum ≤ 16 * 1125899906842624 := by
 have h1 := sum_in (o.take k) (within_take fun j h1 _ => h j h1)
 rw [List.length_take] at h1
 omega
def se_I (i u : Int) (o : List Int) (k : Nat) : ASt :=
 ⟨[(1, .p 0 0 0 1), (2, .c (.int .i64 (o.take k).sum)), (10, .l 1 (o.map encI)), (11, .c (.int .i64 o.length)), (12, .c (.int .i64 k))], ⟨[(0, ⟨112, 3, [RowA i u o]⟩)], 1⟩, 24⟩
set_option maxHeartbeats 1000000 in
theorem sent_call (i u : Int) (o : List Int) (hl : o.length < 1000000000) : PCall Tryz.prog 106 [RowA i u o] (.c (.int .i64 (sentR o))) := by
 refine pcall_body tabOk Tryz.func106 rfl rfl (by rw [Tryz.ntmps106]; simp) ?_
 simp only [Tryz.ntmps106, RowA]
 cases f1 : decide ((o.length : Int) > 16) with
 | true =>
  simp only [↓wt, wz, reduceAdd, reduceMul, reduceEqDiff, reduceLeDiff, Nat.reduceLT, reduceLE, reduceLT, reduceEq, reduceNe, f1, Tryz.results106]
  rw [sentR, if_neg fun h => by have := of_decide_eq_true f1; have := h.1; omega]
  exact exp_c
 | false =>
 have g1 : o.length ≤ 16 := by have := of_decide_eq_false f1; omega
 simp only [↓wt, wz, reduceAdd, reduceMul, reduceEqDiff, reduceLeDiff, Nat.reduceLT, reduceLE, reduceLT, reduceEq, reduceNe, f1]
 refine loop_rule tabOk (se_I i u o) (fun k => k ≤ o.length ∧ ∀ j, j < k → Within (o.getD j 0) 1125899906842624) (fun k => o.length - k) 0 ⟨by omega, fun n h => by omega⟩ ?_ (fun _ => rfl) ?_
 · simp only [↓wt, wz, wkf, reduceAdd, reduceMul, reduceEqDiff, reduceLeDiff, Nat.reduceLT, reduceLE, reduceLT, reduceEq, reduceNe, se_I, RowA, List.sum_nil]
   try rfl
 · rintro k ⟨h1, h2⟩
   have hb := sum_bound g1 h1 h2
   simp only [se_I, RowA]
   simp only [↓wt, wz, reduceAdd, reduceMul, reduceEqDiff, reduceLeDiff, Nat.reduceLT, reduceLE, reduceLT, reduceEq, reduceNe]
   refine r_casesP (fun hc => ?_) (fun hc => ?_)
   · have hk : k < o.length := by omega
     have e1 : IntKind.i64.wrap ((k : Int) + 1) = ((k + 1 : Nat) : Int) := by rw [wrap_i64 (by omega) (by omega)]; omega
     simp only [↓wt, wz, reduceAdd, reduceMul, reduceEqDiff, reduceLeDiff, Nat.reduceLT, reduceLE, reduceLT, reduceEq, reduceNe]
     repeat (refine And.intro (by omega) ?_)
     refine icall_keep [] (within_call _ _) ⟨arg_c, arg_c, trivial⟩ (.c _) ?_
     cases f2 : decide (Within (o.getD k 0) 1125899906842624) with
     | false =>
      simp only [↓wt, wz, reduceAdd, reduceMul, reduceEqDiff, reduceLeDiff, Nat.reduceLT, reduceLE, reduceLT, reduceEq, reduceNe, f2, Tryz.results106]
      repeat (refine And.intro (by omega) ?_)
      rw [sent_bad hk (of_decide_eq_false f2)]
      exact exp_c
     | true =>
      have q := of_decide_eq_true f2
      have e2 : IntKind.i64.wrap ((o.take k).sum + o.getD k 0) = (o.take (k + 1)).sum := by
       rw [sum_snoc hk]; have := q.1; have := q.2; exact wrap_i64 (by omega) (by omega)
      simp only [↓wt, wz, reduceAdd, reduceMul, reduceEqDiff, reduceLeDiff, Nat.reduceLT, reduceLE, reduceLT, reduceEq, reduceNe, f2, e1, e2]
      repeat (refine And.intro (by omega) ?_)
      refine ⟨k + 1, ⟨by omega, fun j hj => ?_⟩, by omega, ?_⟩
      · rcases Nat.lt_or_ge j k with h | h
        · exact h2 j h
        · have : j = k := by omega
          subst this; exact q
      · simp only [↓wt, wz, wkf, reduceAdd, reduceMul, reduceEqDiff, reduceLeDiff, Nat.reduceLT, reduceLE, reduceLT, reduceEq, reduceNe, se_I, RowA, e1]
   · simp only [↓wt, wz, reduceAdd, reduceMul, reduceEqDiff, reduceLeDiff, Nat.reduceLT, reduceLE, reduceLT, reduceEq, reduceNe, Tryz.results106]
     have hk : k = o.length := by omega
     rw [sent_all g1 fun j hj => h2 j (by omega), hk, List.take_length]
     exact exp_c
end Go.Ab
namespace Go.Ab
open Go Go.Proofs Go.RowKit Go.Shelf
attribute [local go_sem] Oper.semAt_some
theorem KZ.put {Z : Nat → Prop} {w : World} (hz : ∀ b, Z b → b < w.heap.size) (W : World) (l : Nat) (o o' : Obj) (hl : w.heap.size ≤ l) (_ : W.heap[l]? = some o) (_ : o.isCells = false) (_ : o.isWalk = false) : KZ Z W (W.putObj l o') :=
 ⟨fun b hb => World.putObj_heap_other (by have := hz b hb; omega)⟩
def Ints (Z : Nat → Prop) (W : World) (A : Option Addr) (zs : List Int) : Prop :=
 0 < zs.length → ∃ b off, A = some ⟨b, off, none⟩ ∧ Z b ∧ ∀ k, k < zs.length → W.cell? ⟨b, off + k, none⟩ = some (.int .i64 (zs.getD k 0))
end Go.Ab
namespace Go.Ab
open Go Go.Proofs Go.RowKit Go.Shelf
attribute [local go_sem] Oper.semAt_some
theorem Ints.mono {Z Z' : Nat → Prop} {W W' : World} {A : Option Addr} {zs : List Int} (h : Ints Z W A zs) (hz : ∀ b, Z b → Z' b ∧ W'.heap[b]? = W.heap[b]?) : Ints Z' W' A zs := fun hl => by
 obtain ⟨b, off, e, h1, h2⟩ := h hl
 exact ⟨b, off, e, (hz b h1).1, fun k hk => by rw [cell_same (hz b h1).2]; exact h2 k hk⟩
end Go.Ab
namespace Go.Ab
open Go Go.Proofs Go.RowKit Go.Shelf
end Go.Ab
namespace Go.Ab
open Go Go.Proofs Go.RowKit
theorem arg_row {M : Mem} {ids : List Nat} {i u : Int} {o : List Int} : VOkA M (RowA i u o) ∧ (∀ k ∈ idsA (RowA i u o), k ∈ ids) ∧ Weak (viewA M (RowA i u o)) (RowA i u o) ∧ Under 0 (RowA i u o) :=
 ⟨⟨trivial, trivial, trivial, trivial⟩, (fun i h => by simp [RowA, idsA, idsC] at h), by show WeakL _ _; exact .refl _, .g _ fun j hj => by
  match j, hj with
  | 0, _ => exact .c _
  | 1, _ => exact .c _
  | 2, _ => exact .l _ _ (by rw [← UnderL, underL_I]; trivial)⟩
end Go.Ab
