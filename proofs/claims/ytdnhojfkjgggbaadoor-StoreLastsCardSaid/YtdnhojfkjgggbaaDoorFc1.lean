/- slices.Concat of bytes: a row of one's own. -/
import Derived.Test.YtdnhojfkjgggbaaDoorGr1
set_option linter.unusedSimpArgs false
set_option linter.unusedVariables false
set_option linter.constructorNameAsVariable false
set_option maxRecDepth 100000
namespace Go.Ab
open Go Go.Proofs Go.RowKit Go.Shelf

theorem info5 : (Tryd.prog.info? 5).map (fun i => (i.zero, i.size, i.bytes)) = some (some (.int .u8 0), 1, 1) := by kernel_rfl
set_option maxHeartbeats 4000000 in
theorem grow_in (n : Nat) (hn : n ≤ 1000000000) (w : World) : Calls Tryd.prog 52 #[.slice none 0 0, .int .i64 n] w fun e w' =>
    Below w.heap.size w w' ∧ (e = .returned (.slice none 0 0) ∨ ∃ b G arr, e = .returned (.slice (some ⟨b, 0, none⟩) 0 G) ∧ w.heap.size ≤ b ∧ w'.heap[b]? = some (.cells arr 5 (0, 0)) ∧ arr.size = G ∧ G ≤ maxLen) := by
  by_cases h0 : n = 0
  · subst h0
    go_enter Tryd.func52, Tryd.ntmps52
    go_wp2
    go_ret
    exact ⟨Below.refl _ _, .inl rfl⟩
  · obtain ⟨i0, hi, hz0, hz1, hz2⟩ := info_parts info5
    have hold : (Builtin.firstCells i0.size 0 (.slice none 0 0)).run Tryd.prog w.drew = .ok (([] : List Value).toArray) w.drew := run_firstCells_none w.drew i0.size 0 0 0
    have hrz : ∀ ty, (Builtin.append_ #[22, 3] ty #[.slice none 0 0, .int .i64 (n : Int)]).run Tryd.prog w =
        .ok (.slice (some ⟨w.heap.size, 0, none⟩) n (grownCap w n 0 5)) (w.drew.alloc (.cells (Builtin.zeroCells (Value.int .u8 0).cells n ++ Builtin.zeroCells (Value.int .u8 0).cells (grownCap w n 0 5 - n)) 5)) := fun ty => by
      have h := Lib.run_append_grow_zeros w 22 3 ty 5 i0 (.int .u8 0) .i64 .i64 Tryd.underlying22 Tryd.underlying3 hi hz0 none 0 0 [] hold n (by omega) (by omega) (by omega) (by omega) (by rw [hz2]; omega) (by rw [hz2]; exact growslice_fits (by omega) (by omega))
      simpa using h
    have hG1 : n ≤ grownCap w n 0 5 := grownCap_ge w _ _ _
    have hG2 : grownCap w n 0 5 ≤ maxLen := grownCap_le_maxLen w n 0 5 (by unfold maxLen; omega)
    obtain ⟨G, hG⟩ : ∃ G, G = grownCap w n 0 5 := ⟨_, rfl⟩
    rw [← hG] at hrz hG1 hG2
    have hG3 : G ≤ 9223372036854775807 := by unfold maxLen at hG2; omega
    have h1 : ¬ ((n : Int) < 0) := by omega
    have h3 : wrap64 ((n : Int) - 0) = (n : Int) := by unfold wrap64; omega
    have h4 : (n : Int) > 0 := by omega
    clear hold hG
    go_enter Tryd.func52, Tryd.ntmps52
    go_wp2_with (at_builtin; refine Lib.wpList_append_run _ rfl _ _ _ _ rfl _ _ rfl rfl _ _ (hrz _) ?_)
    all_goals go_ret
    refine ⟨((Below.refl _ w).alloc (Nat.le_refl _) _).drew, .inr ⟨w.heap.size, G, rfl, Nat.le_refl _, _, World.alloc_heap_new w (.cells (Builtin.zeroCells #[Value.int .u8 0] n ++ Builtin.zeroCells #[Value.int .u8 0] (G - n)) 5), ?_, hG2⟩⟩
    simp [Builtin.zeroCells]
    omega
theorem grow_call (n : Nat) (hn : n ≤ 1000000000) : PCall Tryd.prog 52 [.c (.slice none 0 0), .c (.int .i64 n)] (.o 5 1 []) := by
  refine pcall_room ⟨_, Tryd.func52, rfl, rfl⟩ fun E vs hs hr => ?_
  match vs, hs, hr with
  | ⟨[a, b]⟩, _, hr =>
    have h0 := hr 0 (by simp) (by simp)
    have h1 := hr 1 (by simp) (by simp)
    simp only [List.getElem_cons_zero, List.getElem_cons_succ, List.getElem_toArray] at h0 h1
    cases h0
    cases h1
    exact grow_in n hn E.w
theorem flat_snoc {α : Type} {ls : List (List α)} {k : Nat} (h : k < ls.length) : (ls.take (k + 1)).flatten = (ls.take k).flatten ++ ls.getD k [] := by
  rw [List.take_add_one, List.getElem?_eq_getElem h, List.getD_eq_getElem?_getD, List.getElem?_eq_getElem h, List.flatten_append]
  simp only [Option.toList_some, Option.getD_some, List.flatten_cons, List.flatten_nil, List.append_nil]
theorem flat_le {α : Type} {ls : List (List α)} {k : Nat} : (ls.take k).flatten.length ≤ ls.flatten.length := by
  have : ls.flatten = (ls.take k).flatten ++ (ls.drop k).flatten := by rw [← List.flatten_append, List.take_append_drop]
  rw [this, List.length_append]; omega
def cc_I (ls : List (List UInt8)) (k : Nat) : ASt :=
  ⟨[(0, .l 1 (ls.map Bs)), (3, .c (.int .i64 (ls.take k).flatten.length)), (9, .l 1 (ls.map Bs)), (10, .c (.int .i64 ls.length)), (11, .c (.int .i64 k))], ⟨[], 0⟩, 36⟩
def cc_J (ls : List (List UInt8)) (k : Nat) : ASt :=
  ⟨[(6, .s 0 0 (ls.take k).flatten.length), (25, .l 1 (ls.map Bs)), (26, .c (.int .i64 ls.length)), (27, .c (.int .i64 k))], ⟨[(0, ⟨5, 1, (ls.take k).flatten.map encB⟩)], 1⟩, 36⟩
set_option maxHeartbeats 1000000 in
theorem concatO_call (ls : List (List UInt8)) (hl : ls.length < 1000000000) (hf : ls.flatten.length ≤ 1000000000) : PCall Tryd.prog 32 [.l 1 (ls.map Bs)] (.o 5 1 (ls.flatten.map encB)) := by
  refine pcall_body tabOk Tryd.func32 rfl rfl (by rw [Tryd.ntmps32]; simp) ?_
  simp only [Tryd.ntmps32]
  simp only [↓wt, wu, wk0, wk1, wk2, wk3, Nat.reduceAdd, Nat.reduceEqDiff, Nat.reduceLeDiff, Nat.reduceLT, Nat.reduceMul, Int.reduceLE, Int.reduceLT, Int.reduceEq, Int.reduceNe, wk4, laidS, keepS]
  refine loop_rule tabOk (cc_I ls) (fun k => k ≤ ls.length) (fun k => ls.length - k) 0 (Nat.zero_le _) ?_ (fun _ => rfl) ?_
  · simp only [↓wt, wu, wk0, wk1, wk2, wk3, wkf, Nat.reduceAdd, Nat.reduceEqDiff, Nat.reduceLeDiff, Nat.reduceLT, Nat.reduceMul, Int.reduceLE, Int.reduceLT, Int.reduceEq, Int.reduceNe, wk4, laidS, keepS, cc_I, underL_Bs, List.take_zero, List.flatten_nil]
    try rfl
  · intro k hk
    simp only [cc_I]
    simp only [↓wt, wu, wk0, wk1, wk2, wk3, Nat.reduceAdd, Nat.reduceEqDiff, Nat.reduceLeDiff, Nat.reduceLT, Nat.reduceMul, Int.reduceLE, Int.reduceLT, Int.reduceEq, Int.reduceNe, wk4, laidS, keepS]
    refine r_casesP (fun hc => ?_) (fun hc => ?_)
    · have hk2 : k < ls.length := by omega
      have h1 := flat_le (ls := ls) (k := k + 1)
      rw [flat_snoc hk2, List.length_append] at h1
      have e2 : IntKind.i64.wrap (((ls.take k).flatten.length : Int) + ((ls.getD k []).length : Int)) = (((ls.take (k + 1)).flatten.length : Nat) : Int) := by
        rw [flat_snoc hk2, List.length_append, wrap_i64 (by omega) (by omega)]; push_cast; rfl
      have e1 : IntKind.i64.wrap ((k : Int) + 1) = ((k + 1 : Nat) : Int) := by rw [wrap_i64 (by omega) (by omega)]; omega
      have e3 : decide ((((ls.take (k + 1)).flatten.length : Nat) : Int) < 0) = false := decide_eq_false (by omega)
      simp only [↓wt, wu, wk0, wk1, wk2, wk3, Nat.reduceAdd, Nat.reduceEqDiff, Nat.reduceLeDiff, Nat.reduceLT, Nat.reduceMul, Int.reduceLE, Int.reduceLT, Int.reduceEq, Int.reduceNe, wk4, laidS, keepS, elem_Bs, Bs, e1, e2, e3]
      repeat (refine And.intro (by omega) ?_)
      refine ⟨k + 1, by omega, by omega, ?_⟩
      simp only [↓wt, wu, wk0, wk1, wk2, wk3, wkf, Nat.reduceAdd, Nat.reduceEqDiff, Nat.reduceLeDiff, Nat.reduceLT, Nat.reduceMul, Int.reduceLE, Int.reduceLT, Int.reduceEq, Int.reduceNe, wk4, laidS, keepS, cc_I, underL_Bs, e1, e2]
    · have hk3 : k = ls.length := by omega
      subst hk3
      simp only [↓wt, wu, wk0, wk1, wk2, wk3, Nat.reduceAdd, Nat.reduceEqDiff, Nat.reduceLeDiff, Nat.reduceLT, Nat.reduceMul, Int.reduceLE, Int.reduceLT, Int.reduceEq, Int.reduceNe, wk4, laidS, keepS, List.take_length]
      refine icall_drop [] (grow_call _ hf) ⟨arg_c, arg_c, trivial⟩ (fun i h => absurd h (by simp)) ?_
      simp only [↓wt, wu, wk0, wk1, wk2, wk3, Nat.reduceAdd, Nat.reduceEqDiff, Nat.reduceLeDiff, Nat.reduceLT, Nat.reduceMul, Int.reduceLE, Int.reduceLT, Int.reduceEq, Int.reduceNe, wk4, laidS, keepS]
      refine loop_rule tabOk (cc_J ls) (fun k => k ≤ ls.length) (fun k => ls.length - k) 0 (Nat.zero_le _) ?_ (fun _ => rfl) ?_
      · simp only [↓wt, wu, wk0, wk1, wk2, wk3, wkf, Nat.reduceAdd, Nat.reduceEqDiff, Nat.reduceLeDiff, Nat.reduceLT, Nat.reduceMul, Int.reduceLE, Int.reduceLT, Int.reduceEq, Int.reduceNe, wk4, laidS, keepS, cc_J, underL_Bs, List.take_zero, List.flatten_nil]
        try rfl
      · intro k hk
        simp only [cc_J]
        simp only [↓wt, wu, wk0, wk1, wk2, wk3, Nat.reduceAdd, Nat.reduceEqDiff, Nat.reduceLeDiff, Nat.reduceLT, Nat.reduceMul, Int.reduceLE, Int.reduceLT, Int.reduceEq, Int.reduceNe, wk4, laidS, keepS]
        refine r_casesP (fun hc => ?_) (fun hc => ?_)
        · have hk2 : k < ls.length := by omega
          have h1 := flat_le (ls := ls) (k := k + 1)
          rw [flat_snoc hk2, List.length_append] at h1
          have e1 : IntKind.i64.wrap ((k : Int) + 1) = ((k + 1 : Nat) : Int) := by rw [wrap_i64 (by omega) (by omega)]; omega
          simp only [↓wt, wu, wk0, wk1, wk2, wk3, Nat.reduceAdd, Nat.reduceEqDiff, Nat.reduceLeDiff, Nat.reduceLT, Nat.reduceMul, Int.reduceLE, Int.reduceLT, Int.reduceEq, Int.reduceNe, wk4, laidS, keepS, elem_Bs, Bs, e1]
          repeat (refine And.intro (by omega) ?_)
          refine ⟨k + 1, by omega, by omega, ?_⟩
          simp only [↓wt, wu, wk0, wk1, wk2, wk3, wkf, Nat.reduceAdd, Nat.reduceEqDiff, Nat.reduceLeDiff, Nat.reduceLT, Nat.reduceMul, Int.reduceLE, Int.reduceLT, Int.reduceEq, Int.reduceNe, wk4, laidS, keepS, cc_J, underL_Bs, e1, underL_append, underL_B]
          rw [flat_snoc hk2, List.length_append, List.map_append]; exact ⟨rfl, rfl⟩
        · have hk3 : k = ls.length := by omega
          subst hk3
          simp only [↓wt, wu, wk0, wk1, wk2, wk3, Nat.reduceAdd, Nat.reduceEqDiff, Nat.reduceLeDiff, Nat.reduceLT, Nat.reduceMul, Int.reduceLE, Int.reduceLT, Int.reduceEq, Int.reduceNe, wk4, laidS, keepS, List.take_length, Tryd.results32]
          exact exp_own rfl (by rw [List.length_map]) (pureB _)
end Go.Ab
