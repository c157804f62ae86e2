/- slices.Concat of bytes. -/
import Derived.Test.YtpjmbigfgoogaacTp2
set_option linter.unusedSimpArgs false
set_option linter.unusedVariables false
set_option linter.constructorNameAsVariable false
set_option maxRecDepth 100000
namespace Go.Ab
open Go Go.Proofs Go.RowKit

/-- Bytes that nobody writes any more. -/
def Bs (l : List UInt8) : AV := .l 1 (l.map encB)
theorem under_Bs {k : Nat} {l : List UInt8} : Under k (Bs l) = True := by rw [Bs, under_l, underL_B]
theorem cells_Bs {l : List UInt8} : (Bs l).cells = [Bs l] := rfl
theorem underL_Bs {k : Nat} {ls : List (List UInt8)} : UnderL k (ls.map Bs) = True := by
  induction ls with
  | nil => simp [underL_nil]
  | cons a l ih => simp only [List.map_cons, underL_cons, ih, cells_Bs, List.mem_singleton, forall_eq, under_Bs, and_self]
theorem elem_Bs {ls : List (List UInt8)} {i : Nat} {K : AV → Prop} : Elem (ls.map Bs) i K = (i < ls.length ∧ K (Bs (ls.getD i []))) := by
  simp only [Elem, List.length_map, List.getElem_map, eq_iff_iff]
  constructor
  · rintro ⟨h, k⟩
    refine ⟨h, ?_⟩
    rw [List.getD_eq_getElem?_getD, List.getElem?_eq_getElem h]; exact k
  · rintro ⟨h, k⟩
    refine ⟨h, ?_⟩
    rw [List.getD_eq_getElem?_getD, List.getElem?_eq_getElem h] at k; exact k
theorem flat_snoc {α : Type} {ls : List (List α)} {k : Nat} (h : k < ls.length) : (ls.take (k + 1)).flatten = (ls.take k).flatten ++ ls.getD k [] := by
  rw [List.take_add_one, List.getElem?_eq_getElem h, List.getD_eq_getElem?_getD, List.getElem?_eq_getElem h, List.flatten_append]
  simp only [Option.toList_some, Option.getD_some, List.flatten_cons, List.flatten_nil, List.append_nil]
theorem flat_le {α : Type} {ls : List (List α)} {k : Nat} : (ls.take k).flatten.length ≤ ls.flatten.length := by
  have : ls.flatten = (ls.take k).flatten ++ (ls.drop k).flatten := by rw [← List.flatten_append, List.take_append_drop]
  rw [this, List.length_append]; omega
theorem exp_sl {M : Mem} {id n : Nat} {T : TypeId} {sz : Nat} {xs : List AV} (h : M.get id = some ⟨T, sz, xs⟩) (hn : n = xs.length) (hp : PureL xs) : Exp M (.s id 0 n) (.l sz xs) :=
  ⟨[], [id], ⟨rfl, rfl, _, h, by simpa using hn, rfl, by simp, hp⟩, by simp, by simp⟩
def cc_I (ls : List (List UInt8)) (k : Nat) : ASt :=
  ⟨[(0, .l 1 (ls.map Bs)), (3, .c (.int .i64 (ls.take k).flatten.length)), (9, .l 1 (ls.map Bs)), (10, .c (.int .i64 ls.length)), (11, .c (.int .i64 k))], ⟨[], 0⟩, 36⟩
def cc_J (ls : List (List UInt8)) (k : Nat) : ASt :=
  ⟨[(6, .s 0 0 (ls.take k).flatten.length), (25, .l 1 (ls.map Bs)), (26, .c (.int .i64 ls.length)), (27, .c (.int .i64 k))], ⟨[(0, ⟨5, 1, (ls.take k).flatten.map encB⟩)], 1⟩, 36⟩
set_option maxHeartbeats 1000000 in
theorem concat_call (ls : List (List UInt8)) (hl : ls.length < 1000000000) (hf : ls.flatten.length ≤ 1000000000) : PCall Try.prog 26 [.l 1 (ls.map Bs)] (Bs ls.flatten) := by
  refine pcall_body tabOk Try.func26 rfl rfl (by rw [Try.ntmps26]; simp) ?_
  simp only [Try.ntmps26]
  simp only [↓wt, wu, wk0, wk1, wk2, wk3, Nat.reduceAdd, Nat.reduceEqDiff, Nat.reduceLeDiff, Nat.reduceLT, Nat.reduceMul, Int.reduceLE, Int.reduceLT, Int.reduceEq, Int.reduceNe, List.flatMap_cons, List.flatMap_nil]
  refine loop_rule tabOk (cc_I ls) (fun k => k ≤ ls.length) (fun k => ls.length - k) 0 (Nat.zero_le _) ?_ (fun _ => rfl) ?_
  · simp only [↓wt, wu, wk0, wk1, wk2, wk3, wkf, Nat.reduceAdd, Nat.reduceEqDiff, Nat.reduceLeDiff, Nat.reduceLT, Nat.reduceMul, Int.reduceLE, Int.reduceLT, Int.reduceEq, Int.reduceNe, List.flatMap_cons, List.flatMap_nil, cc_I, underL_Bs, List.take_zero, List.flatten_nil]
    try rfl
  · intro k hk
    simp only [cc_I]
    simp only [↓wt, wu, wk0, wk1, wk2, wk3, Nat.reduceAdd, Nat.reduceEqDiff, Nat.reduceLeDiff, Nat.reduceLT, Nat.reduceMul, Int.reduceLE, Int.reduceLT, Int.reduceEq, Int.reduceNe, List.flatMap_cons, List.flatMap_nil]
    refine r_casesP (fun hc => ?_) (fun hc => ?_)
    · have hk2 : k < ls.length := by omega
      have h1 := flat_le (ls := ls) (k := k + 1)
      rw [flat_snoc hk2, List.length_append] at h1
      have e2 : IntKind.i64.wrap (((ls.take k).flatten.length : Int) + ((ls.getD k []).length : Int)) = (((ls.take (k + 1)).flatten.length : Nat) : Int) := by
        rw [flat_snoc hk2, List.length_append, wrap_i64 (by omega) (by omega)]; push_cast; rfl
      have e1 : IntKind.i64.wrap ((k : Int) + 1) = ((k + 1 : Nat) : Int) := by rw [wrap_i64 (by omega) (by omega)]; omega
      have e3 : decide ((((ls.take (k + 1)).flatten.length : Nat) : Int) < 0) = false := decide_eq_false (by omega)
      simp only [↓wt, wu, wk0, wk1, wk2, wk3, Nat.reduceAdd, Nat.reduceEqDiff, Nat.reduceLeDiff, Nat.reduceLT, Nat.reduceMul, Int.reduceLE, Int.reduceLT, Int.reduceEq, Int.reduceNe, List.flatMap_cons, List.flatMap_nil, elem_Bs, Bs, e1, e2, e3]
      repeat (refine And.intro (by omega) ?_)
      refine ⟨k + 1, by omega, by omega, ?_⟩
      simp only [↓wt, wu, wk0, wk1, wk2, wk3, wkf, Nat.reduceAdd, Nat.reduceEqDiff, Nat.reduceLeDiff, Nat.reduceLT, Nat.reduceMul, Int.reduceLE, Int.reduceLT, Int.reduceEq, Int.reduceNe, List.flatMap_cons, List.flatMap_nil, cc_I, underL_Bs, e1, e2]
    · have hk3 : k = ls.length := by omega
      subst hk3
      simp only [↓wt, wu, wk0, wk1, wk2, wk3, Nat.reduceAdd, Nat.reduceEqDiff, Nat.reduceLeDiff, Nat.reduceLT, Nat.reduceMul, Int.reduceLE, Int.reduceLT, Int.reduceEq, Int.reduceNe, List.flatMap_cons, List.flatMap_nil, List.take_length]
      refine icall_drop [] (grow_call _ hf) ⟨arg_c, arg_c, trivial⟩ (fun i h => absurd h (by simp)) ?_
      simp only [↓wt, wu, wk0, wk1, wk2, wk3, Nat.reduceAdd, Nat.reduceEqDiff, Nat.reduceLeDiff, Nat.reduceLT, Nat.reduceMul, Int.reduceLE, Int.reduceLT, Int.reduceEq, Int.reduceNe, List.flatMap_cons, List.flatMap_nil]
      refine loop_rule tabOk (cc_J ls) (fun k => k ≤ ls.length) (fun k => ls.length - k) 0 (Nat.zero_le _) ?_ (fun _ => rfl) ?_
      · simp only [↓wt, wu, wk0, wk1, wk2, wk3, wkf, Nat.reduceAdd, Nat.reduceEqDiff, Nat.reduceLeDiff, Nat.reduceLT, Nat.reduceMul, Int.reduceLE, Int.reduceLT, Int.reduceEq, Int.reduceNe, List.flatMap_cons, List.flatMap_nil, cc_J, underL_Bs, List.take_zero, List.flatten_nil]
        try rfl
      · intro k hk
        simp only [cc_J]
        simp only [↓wt, wu, wk0, wk1, wk2, wk3, Nat.reduceAdd, Nat.reduceEqDiff, Nat.reduceLeDiff, Nat.reduceLT, Nat.reduceMul, Int.reduceLE, Int.reduceLT, Int.reduceEq, Int.reduceNe, List.flatMap_cons, List.flatMap_nil]
        refine r_casesP (fun hc => ?_) (fun hc => ?_)
        · have hk2 : k < ls.length := by omega
          have h1 := flat_le (ls := ls) (k := k + 1)
          rw [flat_snoc hk2, List.length_append] at h1
          have e1 : IntKind.i64.wrap ((k : Int) + 1) = ((k + 1 : Nat) : Int) := by rw [wrap_i64 (by omega) (by omega)]; omega
          simp only [↓wt, wu, wk0, wk1, wk2, wk3, Nat.reduceAdd, Nat.reduceEqDiff, Nat.reduceLeDiff, Nat.reduceLT, Nat.reduceMul, Int.reduceLE, Int.reduceLT, Int.reduceEq, Int.reduceNe, List.flatMap_cons, List.flatMap_nil, elem_Bs, Bs, e1]
          repeat (refine And.intro (by omega) ?_)
          refine ⟨k + 1, by omega, by omega, ?_⟩
          simp only [↓wt, wu, wk0, wk1, wk2, wk3, wkf, Nat.reduceAdd, Nat.reduceEqDiff, Nat.reduceLeDiff, Nat.reduceLT, Nat.reduceMul, Int.reduceLE, Int.reduceLT, Int.reduceEq, Int.reduceNe, List.flatMap_cons, List.flatMap_nil, cc_J, underL_Bs, e1, underL_append, underL_B]
          rw [flat_snoc hk2, List.length_append, List.map_append]; exact ⟨rfl, rfl⟩
        · have hk3 : k = ls.length := by omega
          subst hk3
          simp only [↓wt, wu, wk0, wk1, wk2, wk3, Nat.reduceAdd, Nat.reduceEqDiff, Nat.reduceLeDiff, Nat.reduceLT, Nat.reduceMul, Int.reduceLE, Int.reduceLT, Int.reduceEq, Int.reduceNe, List.flatMap_cons, List.flatMap_nil, List.take_length, Try.results26]
          exact exp_sl rfl (by rw [List.length_map]) (pureB _)
end Go.Ab
