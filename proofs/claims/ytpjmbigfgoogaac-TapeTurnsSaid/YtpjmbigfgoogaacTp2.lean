/- slices.Grow of nothing. -/
import Derived.Test.YtpjmbigfgoogaacTp1
import Derived.Lib.AppendZerosOnto
import Derived.Lib.SliceRun
import Derived.Lib.Walk
import Derived.Shelf.Abstract
import Derived.Shelf.RegionOpenPlain
set_option linter.unusedSimpArgs false
set_option linter.unusedVariables false
set_option linter.constructorNameAsVariable false
set_option maxRecDepth 100000
namespace Go.Ab
open Go Go.Proofs Go.RowKit Go.Shelf

/-- From the kit's word on a call to a contract: a row of the callee's own, that has nothing yet, or room. -/
theorem pcall_room {P : Program} {f : FuncId} {args : List AV} {T : TypeId} (h1 : ∃ fn, P.funcs[f]? = some fn ∧ fn.body.isNone = false ∧ (fn.name == "runtime.NumGoroutine") = false)
    (h : ∀ (E : Env) (vs : Array Value), vs.size = args.length → (∀ i (h1 : i < args.length) (h2 : i < vs.size), Rep E args[i] vs[i]) →
      Calls P f vs E.w fun e w' => Below E.w.heap.size E.w w' ∧ (e = .returned (.slice none 0 0) ∨ ∃ b G arr, e = .returned (.slice (some ⟨b, 0, none⟩) 0 G) ∧ E.w.heap.size ≤ b ∧ w'.heap[b]? = some (.cells arr T (0, 0)) ∧ arr.size = G ∧ G ≤ maxLen)) :
    PCall P f args (.o T 1 []) := by
  refine ⟨h1, fun w0 E vs hg hs hr => Calls.mono' (h E vs hs hr) ?_⟩
  rintro e w' ⟨hb, hcase⟩
  obtain ⟨g1, g2⟩ := hg.grow hb
  have hk : E.k = 0 := hg.k.symm
  have had : ∀ id, E.ad id = none := fun id => hg.gone id rfl
  -- the moment behind: one block of the call's own
  have fin : ∀ (q : At) (v : Value), q.sz = 1 → q.n = 0 → (0 < q.cp → E.w.heap.size ≤ q.b ∧ Backed ⟨w', fun i => if i = 0 then some q else none, 1, E.hid⟩ q ⟨T, 1, []⟩) → Rep ⟨w', fun i => if i = 0 then some q else none, 1, E.hid⟩ (.s 0 0 0) v →
      ∃ v' E' M' a, Ending.returned v = .returned v' ∧ E'.w = w' ∧ Good w0 E' M' ∧ Later E E' ∧ Rep E' a v' ∧ Exp M' a (.o T 1 []) := fun q v q1 q2 q3 q4 => by
    refine ⟨v, ⟨w', fun i => if i = 0 then some q else none, 1, E.hid⟩, ⟨[(0, ⟨T, 1, []⟩)], 1⟩, .s 0 0 0, rfl, rfl, ?_, ?_, q4, exp_own rfl rfl (fun i h => absurd h (by simp))⟩
    · refine ⟨g1.below, rfl, fun id q' hq => ?_, fun id hM => ?_, fun id blk hM => ?_, fun id q' hq hcp hh => ?_, hg.old, fun i i' q1' q2' hne h1 h2 => ?_⟩
      · by_cases e : id = 0
        · subst e; exact Nat.lt_succ_self _
        · simp [e] at hq
      · by_cases e : id = 0
        · subst e; simp [Mem.get, assoc] at hM
        · simp [e]
      · by_cases e : id = 0
        · subst e
          simp only [Mem.get, assoc, Nat.beq_refl, cond_true, Option.some.injEq] at hM
          subst hM
          exact ⟨q, by simp, q1, by simpa using q2, by omega, fun hcp => ⟨Nat.le_trans hg.below.size (q3 hcp).1, (q3 hcp).2⟩⟩
        · simp [Mem.get, assoc, beq_ne (Ne.symm e)] at hM
      · by_cases e : id = 0
        · subst e
          simp only [if_true, Option.some.injEq] at hq
          subst hq
          have := hg.old _ hh
          have := (q3 hcp).1
          have := hg.below.size
          omega
        · simp [e] at hq
      · by_cases e : i = 0
        · by_cases e' : i' = 0
          · exact absurd (e.trans e'.symm) hne
          · simp [e'] at h2
        · simp [e] at h1
    · refine ⟨fun b hb' => ⟨⟨(g2.z b hb').1.1, hb'.2.1, fun id q' hq hcp => ?_⟩, (g2.z b hb').2⟩, by show E.k ≤ 1; omega, fun id hid q' hq => by omega, rfl⟩
      by_cases e : id = 0
      · subst e
        simp only [if_true, Option.some.injEq] at hq
        subst hq
        have := (q3 hcp).1
        have := hb'.1
        omega
      · simp [e] at hq
  rcases hcase with rfl | ⟨b, G, arr, rfl, c1, c2, c3, c4⟩
  · exact fin ⟨0, 1, 0, 0⟩ _ rfl rfl (fun h => absurd h (by simp)) (.s 0 0 0 none 0 (by simp) fun q' hq => by
      simp only [if_true, Option.some.injEq] at hq
      subst hq
      exact ⟨Nat.le_refl _, fun _ => ⟨rfl, fun h => absurd h (by simp)⟩⟩)
  · exact fin ⟨b, 1, 0, G⟩ _ rfl rfl (fun _ => ⟨c1, c4, arr, c2, by simpa using c3, fun i h => absurd h (by simp)⟩) (.s 0 0 0 _ G (by simp) fun q' hq => by
      simp only [if_true, Option.some.injEq] at hq
      subst hq
      exact ⟨Nat.le_refl _, fun _ => ⟨by simp, fun _ => by simp⟩⟩)
theorem info5 : (Try.prog.info? 5).map (fun i => (i.zero, i.size, i.bytes)) = some (some (.int .u8 0), 1, 1) := by kernel_rfl
set_option maxHeartbeats 4000000 in
theorem grow_in (n : Nat) (hn : n ≤ 1000000000) (w : World) : Calls Try.prog 30 #[.slice none 0 0, .int .i64 n] w fun e w' =>
    Below w.heap.size w w' ∧ (e = .returned (.slice none 0 0) ∨ ∃ b G arr, e = .returned (.slice (some ⟨b, 0, none⟩) 0 G) ∧ w.heap.size ≤ b ∧ w'.heap[b]? = some (.cells arr 5 (0, 0)) ∧ arr.size = G ∧ G ≤ maxLen) := by
  by_cases h0 : n = 0
  · subst h0
    go_enter Try.func30, Try.ntmps30
    go_wp2
    go_ret
    exact ⟨Below.refl _ _, .inl rfl⟩
  · obtain ⟨i0, hi, hz0, hz1, hz2⟩ := info_parts info5
    have hold : (Builtin.firstCells i0.size 0 (.slice none 0 0)).run Try.prog w.drew = .ok (([] : List Value).toArray) w.drew := run_firstCells_none w.drew i0.size 0 0 0
    have hrz : ∀ ty, (Builtin.append_ #[22, 3] ty #[.slice none 0 0, .int .i64 (n : Int)]).run Try.prog w =
        .ok (.slice (some ⟨w.heap.size, 0, none⟩) n (grownCap w n 0 5)) (w.drew.alloc (.cells (Builtin.zeroCells (Value.int .u8 0).cells n ++ Builtin.zeroCells (Value.int .u8 0).cells (grownCap w n 0 5 - n)) 5)) := fun ty => by
      have h := Lib.run_append_grow_zeros w 22 3 ty 5 i0 (.int .u8 0) .i64 .i64 Try.underlying22 Try.underlying3 hi hz0 none 0 0 [] hold n (by omega) (by omega) (by omega) (by omega) (by rw [hz2]; omega) (by rw [hz2]; exact growslice_fits (by omega) (by omega))
      simpa using h
    have hG1 : n ≤ grownCap w n 0 5 := grownCap_ge w _ _ _
    have hG2 : grownCap w n 0 5 ≤ maxLen := grownCap_le_maxLen w n 0 5 (by unfold maxLen; omega)
    obtain ⟨G, hG⟩ : ∃ G, G = grownCap w n 0 5 := ⟨_, rfl⟩
    rw [← hG] at hrz hG1 hG2
    have hG3 : G ≤ 9223372036854775807 := by unfold maxLen at hG2; omega
    have h1 : ¬ ((n : Int) < 0) := by omega
    have h3 : wrap64 ((n : Int) - 0) = (n : Int) := by unfold wrap64; omega
    have h4 : (n : Int) > 0 := by omega
    clear hold hG
    go_enter Try.func30, Try.ntmps30
    go_wp2_with (at_builtin; refine Lib.wpList_append_run _ rfl _ _ _ _ rfl _ _ rfl rfl _ _ (hrz _) ?_)
    all_goals go_ret
    refine ⟨((Below.refl _ w).alloc (Nat.le_refl _) _).drew, .inr ⟨w.heap.size, G, rfl, Nat.le_refl _, _, World.alloc_heap_new w (.cells (Builtin.zeroCells #[Value.int .u8 0] n ++ Builtin.zeroCells #[Value.int .u8 0] (G - n)) 5), ?_, hG2⟩⟩
    simp [Builtin.zeroCells]
    omega
theorem grow_call (n : Nat) (hn : n ≤ 1000000000) : PCall Try.prog 30 [.c (.slice none 0 0), .c (.int .i64 n)] (.o 5 1 []) := by
  refine pcall_room ⟨_, Try.func30, rfl, rfl⟩ fun E vs hs hr => ?_
  match vs, hs, hr with
  | ⟨[a, b]⟩, _, hr =>
    have h0 := hr 0 (by simp) (by simp)
    have h1 := hr 1 (by simp) (by simp)
    simp only [List.getElem_cons_zero, List.getElem_cons_succ, List.getElem_toArray] at h0 h1
    cases h0
    cases h1
    exact grow_in n hn E.w
end Go.Ab
