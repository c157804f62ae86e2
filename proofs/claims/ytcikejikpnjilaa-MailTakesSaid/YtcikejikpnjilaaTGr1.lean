/- A contract from the kit's word on a call: a row of the callee's own, that has nothing yet, or room. slices.Grow and slices.Concat of numbers. pack.Put: what is put. -/
import Derived.Test.YtcikejikpnjilaaTab
import Derived.Test.YtcikejikpnjilaaAbG8
import Derived.Lib.AppendZerosOnto
import Derived.Lib.SliceRun
import Derived.Lib.Walk
import Derived.Shelf.Abstract
import Derived.Shelf.RegionOpenPlain
import Derived.Test.YtcikejikpnjilaaAbG5
set_option linter.unusedSimpArgs false
set_option linter.unusedVariables false
set_option linter.constructorNameAsVariable false
set_option maxRecDepth 100000
namespace Go.Ab
open Go Go.Proofs Go.RowKit Go.Shelf

/-- From the kit's word on a call to a contract: a row of the callee's own, that has nothing yet, or room. -/
theorem pcall_room {P : Program} {f : FuncId} {args : List AV} {T : TypeId} (h1 : ∃ fn, P.funcs[f]? = some fn ∧ fn.body.isNone = false ∧ (fn.name == "runtime.NumGoroutine") = false)
    (h : ∀ (E : Env) (vs : Array Value), vs.size = args.length → (∀ i (h1 : i < args.length) (h2 : i < vs.size), Rep E args[i] vs[i]) →
      Calls P f vs E.w fun e w' => Below E.w.heap.size E.w w' ∧ (e = .returned (.slice none 0 0) ∨ ∃ b G arr, e = .returned (.slice (some ⟨b, 0, none⟩) 0 G) ∧ E.w.heap.size ≤ b ∧ w'.heap[b]? = some (.cells arr T (0, 0)) ∧ arr.size = G ∧ G ≤ maxLen)) :
    PCall P f args (.o T 1 []) := by
  refine ⟨h1, fun w0 E vs hg hs hr => Calls.mono' (h E vs hs hr) ?_⟩
  rintro e w' ⟨hb, hcase⟩
  obtain ⟨g1, g2⟩ := hg.grow hb
  have hk : E.k = 0 := hg.k.symm
  have had : ∀ id, E.ad id = none := fun id => hg.gone id rfl
  -- the moment behind: one block of the call's own
  have fin : ∀ (q : At) (v : Value), q.sz = 1 → q.n = 0 → (0 < q.cp → E.w.heap.size ≤ q.b ∧ Backed ⟨w', fun i => if i = 0 then some q else none, 1, E.hid⟩ q ⟨T, 1, []⟩) → Rep ⟨w', fun i => if i = 0 then some q else none, 1, E.hid⟩ (.s 0 0 0) v →
      ∃ v' E' M' a, Ending.returned v = .returned v' ∧ E'.w = w' ∧ Good w0 E' M' ∧ Later E E' ∧ Rep E' a v' ∧ Exp M' a (.o T 1 []) := fun q v q1 q2 q3 q4 => by
    refine ⟨v, ⟨w', fun i => if i = 0 then some q else none, 1, E.hid⟩, ⟨[(0, ⟨T, 1, []⟩)], 1⟩, .s 0 0 0, rfl, rfl, ?_, ?_, q4, exp_own rfl rfl (fun i h => absurd h (by simp))⟩
    · refine ⟨g1.below, rfl, fun id q' hq => ?_, fun id hM => ?_, fun id blk hM => ?_, fun id q' hq hcp hh => ?_, fun b0 h0 => Nat.lt_of_lt_of_le (hg.old b0 h0) hb.size, fun i i' q1' q2' hne h1 h2 => ?_⟩
      · by_cases e : id = 0
        · subst e; exact Nat.lt_succ_self _
        · simp [e] at hq
      · by_cases e : id = 0
        · subst e; simp [Mem.get, assoc] at hM
        · simp [e]
      · by_cases e : id = 0
        · subst e
          simp only [Mem.get, assoc, Nat.beq_refl, cond_true, Option.some.injEq] at hM
          subst hM
          exact ⟨q, by simp, q1, by simpa using q2, by omega, fun hcp => ⟨Nat.le_trans hg.below.size (q3 hcp).1, (q3 hcp).2⟩⟩
        · simp [Mem.get, assoc, beq_ne (Ne.symm e)] at hM
      · by_cases e : id = 0
        · subst e
          simp only [if_true, Option.some.injEq] at hq
          subst hq
          have := hg.old _ hh
          have := (q3 hcp).1
          have := hg.below.size
          omega
        · simp [e] at hq
      · by_cases e : i = 0
        · by_cases e' : i' = 0
          · exact absurd (e.trans e'.symm) hne
          · simp [e'] at h2
        · simp [e] at h1
    · refine ⟨fun b hb' => ⟨⟨(g2.z b hb').1.1, hb'.2.1, fun id q' hq hcp => ?_⟩, (g2.z b hb').2⟩, by show E.k ≤ 1; omega, fun id hid q' hq => by omega, rfl, g2.hs⟩
      by_cases e : id = 0
      · subst e
        simp only [if_true, Option.some.injEq] at hq
        subst hq
        have := (q3 hcp).1
        have := hb'.1
        omega
      · simp [e] at hq
  rcases hcase with rfl | ⟨b, G, arr, rfl, c1, c2, c3, c4⟩
  · exact fin ⟨0, 1, 0, 0⟩ _ rfl rfl (fun h => absurd h (by simp)) (.s 0 0 0 none 0 (by simp) fun q' hq => by
      simp only [if_true, Option.some.injEq] at hq
      subst hq
      exact ⟨Nat.le_refl _, fun _ => ⟨rfl, fun h => absurd h (by simp)⟩⟩)
  · exact fin ⟨b, 1, 0, G⟩ _ rfl rfl (fun _ => ⟨c1, c4, arr, c2, by simpa using c3, fun i h => absurd h (by simp)⟩) (.s 0 0 0 _ G (by simp) fun q' hq => by
      simp only [if_true, Option.some.injEq] at hq
      subst hq
      exact ⟨Nat.le_refl _, fun _ => ⟨by simp, fun _ => by simp⟩⟩)
end Go.Ab

set_option linter.unusedSimpArgs false
set_option linter.unusedVariables false
set_option linter.constructorNameAsVariable false
set_option maxRecDepth 100000
namespace Go.Ab
open Go Go.Proofs Go.RowKit Go.Shelf
theorem infoI : (Try.prog.info? 2).map (fun i => (i.zero, i.size, i.bytes)) = some (some (.int .i64 0), 1, 8) := by kernel_rfl
set_option maxHeartbeats 4000000 in
theorem growI_in (n : Nat) (hn : n ≤ 1000000000) (w : World) : Calls Try.prog 57 #[.slice none 0 0, .int .i64 n] w fun e w' =>
    Below w.heap.size w w' ∧ (e = .returned (.slice none 0 0) ∨ ∃ b G arr, e = .returned (.slice (some ⟨b, 0, none⟩) 0 G) ∧ w.heap.size ≤ b ∧ w'.heap[b]? = some (.cells arr 2 (0, 0)) ∧ arr.size = G ∧ G ≤ maxLen) := by
  by_cases h0 : n = 0
  · subst h0
    go_enter Try.func57, Try.ntmps57
    go_wp2
    go_ret
    exact ⟨Below.refl _ _, .inl rfl⟩
  · obtain ⟨i0, hi, hz0, hz1, hz2⟩ := info_parts infoI
    have hold : (Builtin.firstCells i0.size 0 (.slice none 0 0)).run Try.prog w.drew = .ok (([] : List Value).toArray) w.drew := run_firstCells_none w.drew i0.size 0 0 0
    have hrz : ∀ ty, (Builtin.append_ #[53, 3] ty #[.slice none 0 0, .int .i64 (n : Int)]).run Try.prog w =
        .ok (.slice (some ⟨w.heap.size, 0, none⟩) n (grownCap w n 0 2)) (w.drew.alloc (.cells (Builtin.zeroCells (Value.int .i64 0).cells n ++ Builtin.zeroCells (Value.int .i64 0).cells (grownCap w n 0 2 - n)) 2)) := fun ty => by
      have h := Lib.run_append_grow_zeros w 53 3 ty 2 i0 (.int .i64 0) .i64 .i64 Try.underlying53 Try.underlying3 hi hz0 none 0 0 [] hold n (by omega) (by omega) (by omega) (by omega) (by rw [hz2]; omega) (by rw [hz2]; exact growslice_fits (by omega) (by omega))
      simpa using h
    have hG1 : n ≤ grownCap w n 0 2 := grownCap_ge w _ _ _
    have hG2 : grownCap w n 0 2 ≤ maxLen := grownCap_le_maxLen w n 0 2 (by unfold maxLen; omega)
    obtain ⟨G, hG⟩ : ∃ G, G = grownCap w n 0 2 := ⟨_, rfl⟩
    rw [← hG] at hrz hG1 hG2
    have hG3 : G ≤ 9223372036854775807 := by unfold maxLen at hG2; omega
    have h1 : ¬ ((n : Int) < 0) := by omega
    have h3 : wrap64 ((n : Int) - 0) = (n : Int) := by unfold wrap64; omega
    have h4 : (n : Int) > 0 := by omega
    clear hold hG
    go_enter Try.func57, Try.ntmps57
    go_wp2_with (at_builtin; refine Lib.wpList_append_run _ rfl _ _ _ _ rfl _ _ rfl rfl _ _ (hrz _) ?_)
    all_goals go_ret
    refine ⟨((Below.refl _ w).alloc (Nat.le_refl _) _).drew, .inr ⟨w.heap.size, G, rfl, Nat.le_refl _, _, World.alloc_heap_new w (.cells (Builtin.zeroCells #[Value.int .i64 0] n ++ Builtin.zeroCells #[Value.int .i64 0] (G - n)) 2), ?_, hG2⟩⟩
    simp [Builtin.zeroCells]
    omega
theorem growI_call (n : Nat) (hn : n ≤ 1000000000) : PCall Try.prog 57 [.c (.slice none 0 0), .c (.int .i64 n)] (.o 2 1 []) := by
  refine pcall_room ⟨_, Try.func57, rfl, rfl⟩ fun E vs hs hr => ?_
  match vs, hs, hr with
  | ⟨[a, b]⟩, _, hr =>
    have h0 := hr 0 (by simp) (by simp)
    have h1 := hr 1 (by simp) (by simp)
    simp only [List.getElem_cons_zero, List.getElem_cons_succ, List.getElem_toArray] at h0 h1
    cases h0
    cases h1
    exact growI_in n hn E.w
/-- Numbers that nobody writes any more. -/
def Is (l : List Int) : AV := .l 1 (l.map encI)
theorem under_Is {k : Nat} {l : List Int} : Under k (Is l) = True := by rw [Is, under_l, underL_I]
theorem cells_Is {l : List Int} : (Is l).cells = [Is l] := rfl
theorem underL_Is {k : Nat} {ls : List (List Int)} : UnderL k (ls.map Is) = True := by
  induction ls with
  | nil => simp [underL_nil]
  | cons a l ih => simp only [List.map_cons, underL_cons, ih, cells_Is, List.mem_singleton, forall_eq, under_Is, and_self]
theorem elem_Is {ls : List (List Int)} {i : Nat} {K : AV → Prop} : Elem (ls.map Is) i K = (i < ls.length ∧ K (Is (ls.getD i []))) := by
  simp only [Elem, List.length_map, List.getElem_map, eq_iff_iff]
  constructor
  · rintro ⟨h, k⟩
    refine ⟨h, ?_⟩
    rw [List.getD_eq_getElem?_getD, List.getElem?_eq_getElem h]; exact k
  · rintro ⟨h, k⟩
    refine ⟨h, ?_⟩
    rw [List.getD_eq_getElem?_getD, List.getElem?_eq_getElem h] at k; exact k
theorem flat_snoc {α : Type} {ls : List (List α)} {k : Nat} (h : k < ls.length) : (ls.take (k + 1)).flatten = (ls.take k).flatten ++ ls.getD k [] := by
  rw [List.take_add_one, List.getElem?_eq_getElem h, List.getD_eq_getElem?_getD, List.getElem?_eq_getElem h, List.flatten_append]
  simp only [Option.toList_some, Option.getD_some, List.flatten_cons, List.flatten_nil, List.append_nil]
theorem flat_le {α : Type} {ls : List (List α)} {k : Nat} : (ls.take k).flatten.length ≤ ls.flatten.length := by
  have : ls.flatten = (ls.take k).flatten ++ (ls.drop k).flatten := by rw [← List.flatten_append, List.take_append_drop]
  rw [this, List.length_append]; omega
def ci_I (ls : List (List Int)) (k : Nat) : ASt :=
  ⟨[(0, .l 1 (ls.map Is)), (3, .c (.int .i64 (ls.take k).flatten.length)), (9, .l 1 (ls.map Is)), (10, .c (.int .i64 ls.length)), (11, .c (.int .i64 k))], ⟨[], 0⟩, 36⟩
def ci_J (ls : List (List Int)) (k : Nat) : ASt :=
  ⟨[(6, .s 0 0 (ls.take k).flatten.length), (25, .l 1 (ls.map Is)), (26, .c (.int .i64 ls.length)), (27, .c (.int .i64 k))], ⟨[(0, ⟨2, 1, (ls.take k).flatten.map encI⟩)], 1⟩, 36⟩
set_option maxHeartbeats 1000000 in
theorem concatI_call (ls : List (List Int)) (hl : ls.length < 1000000000) (hf : ls.flatten.length ≤ 1000000000) : PCall Try.prog 42 [.l 1 (ls.map Is)] (Is ls.flatten) := by
  refine pcall_body tabOk Try.func42 rfl rfl (by rw [Try.ntmps42]; simp) ?_
  simp only [Try.ntmps42]
  simp only [↓wt, wu, wk0, wk1, wk2, wk3, Nat.reduceAdd, Nat.reduceEqDiff, Nat.reduceLeDiff, Nat.reduceLT, Nat.reduceMul, Int.reduceLE, Int.reduceLT, Int.reduceEq, Int.reduceNe, wk4, laidS, keepS]
  refine loop_rule tabOk (ci_I ls) (fun k => k ≤ ls.length) (fun k => ls.length - k) 0 (Nat.zero_le _) ?_ (fun _ => rfl) ?_
  · simp only [↓wt, wu, wk0, wk1, wk2, wk3, wkf, Nat.reduceAdd, Nat.reduceEqDiff, Nat.reduceLeDiff, Nat.reduceLT, Nat.reduceMul, Int.reduceLE, Int.reduceLT, Int.reduceEq, Int.reduceNe, wk4, laidS, keepS, ci_I, underL_Is, List.take_zero, List.flatten_nil]
    try rfl
  · intro k hk
    simp only [ci_I]
    simp only [↓wt, wu, wk0, wk1, wk2, wk3, Nat.reduceAdd, Nat.reduceEqDiff, Nat.reduceLeDiff, Nat.reduceLT, Nat.reduceMul, Int.reduceLE, Int.reduceLT, Int.reduceEq, Int.reduceNe, wk4, laidS, keepS]
    refine r_casesP (fun hc => ?_) (fun hc => ?_)
    · have hk2 : k < ls.length := by omega
      have h1 := flat_le (ls := ls) (k := k + 1)
      rw [flat_snoc hk2, List.length_append] at h1
      have e2 : IntKind.i64.wrap (((ls.take k).flatten.length : Int) + ((ls.getD k []).length : Int)) = (((ls.take (k + 1)).flatten.length : Nat) : Int) := by
        rw [flat_snoc hk2, List.length_append, wrap_i64 (by omega) (by omega)]; push_cast; rfl
      have e1 : IntKind.i64.wrap ((k : Int) + 1) = ((k + 1 : Nat) : Int) := by rw [wrap_i64 (by omega) (by omega)]; omega
      have e3 : decide ((((ls.take (k + 1)).flatten.length : Nat) : Int) < 0) = false := decide_eq_false (by omega)
      simp only [↓wt, wu, wk0, wk1, wk2, wk3, Nat.reduceAdd, Nat.reduceEqDiff, Nat.reduceLeDiff, Nat.reduceLT, Nat.reduceMul, Int.reduceLE, Int.reduceLT, Int.reduceEq, Int.reduceNe, wk4, laidS, keepS, elem_Is, Is, e1, e2, e3]
      repeat (refine And.intro (by omega) ?_)
      refine ⟨k + 1, by omega, by omega, ?_⟩
      simp only [↓wt, wu, wk0, wk1, wk2, wk3, wkf, Nat.reduceAdd, Nat.reduceEqDiff, Nat.reduceLeDiff, Nat.reduceLT, Nat.reduceMul, Int.reduceLE, Int.reduceLT, Int.reduceEq, Int.reduceNe, wk4, laidS, keepS, ci_I, underL_Is, e1, e2]
    · have hk3 : k = ls.length := by omega
      subst hk3
      simp only [↓wt, wu, wk0, wk1, wk2, wk3, Nat.reduceAdd, Nat.reduceEqDiff, Nat.reduceLeDiff, Nat.reduceLT, Nat.reduceMul, Int.reduceLE, Int.reduceLT, Int.reduceEq, Int.reduceNe, wk4, laidS, keepS, List.take_length]
      refine icall_drop [] (growI_call _ hf) ⟨arg_c, arg_c, trivial⟩ (fun i h => absurd h (by simp)) ?_
      simp only [↓wt, wu, wk0, wk1, wk2, wk3, Nat.reduceAdd, Nat.reduceEqDiff, Nat.reduceLeDiff, Nat.reduceLT, Nat.reduceMul, Int.reduceLE, Int.reduceLT, Int.reduceEq, Int.reduceNe, wk4, laidS, keepS]
      refine loop_rule tabOk (ci_J ls) (fun k => k ≤ ls.length) (fun k => ls.length - k) 0 (Nat.zero_le _) ?_ (fun _ => rfl) ?_
      · simp only [↓wt, wu, wk0, wk1, wk2, wk3, wkf, Nat.reduceAdd, Nat.reduceEqDiff, Nat.reduceLeDiff, Nat.reduceLT, Nat.reduceMul, Int.reduceLE, Int.reduceLT, Int.reduceEq, Int.reduceNe, wk4, laidS, keepS, ci_J, underL_Is, List.take_zero, List.flatten_nil]
        try rfl
      · intro k hk
        simp only [ci_J]
        simp only [↓wt, wu, wk0, wk1, wk2, wk3, Nat.reduceAdd, Nat.reduceEqDiff, Nat.reduceLeDiff, Nat.reduceLT, Nat.reduceMul, Int.reduceLE, Int.reduceLT, Int.reduceEq, Int.reduceNe, wk4, laidS, keepS]
        refine r_casesP (fun hc => ?_) (fun hc => ?_)
        · have hk2 : k < ls.length := by omega
          have h1 := flat_le (ls := ls) (k := k + 1)
          rw [flat_snoc hk2, List.length_append] at h1
          have e1 : IntKind.i64.wrap ((k : Int) + 1) = ((k + 1 : Nat) : Int) := by rw [wrap_i64 (by omega) (by omega)]; omega
          simp only [↓wt, wu, wk0, wk1, wk2, wk3, Nat.reduceAdd, Nat.reduceEqDiff, Nat.reduceLeDiff, Nat.reduceLT, Nat.reduceMul, Int.reduceLE, Int.reduceLT, Int.reduceEq, Int.reduceNe, wk4, laidS, keepS, elem_Is, Is, e1]
          repeat (refine And.intro (by omega) ?_)
          refine ⟨k + 1, by omega, by omega, ?_⟩
          simp only [↓wt, wu, wk0, wk1, wk2, wk3, wkf, Nat.reduceAdd, Nat.reduceEqDiff, Nat.reduceLeDiff, Nat.reduceLT, Nat.reduceMul, Int.reduceLE, Int.reduceLT, Int.reduceEq, Int.reduceNe, wk4, laidS, keepS, ci_J, underL_Is, e1, underL_append, underL_I]
          rw [flat_snoc hk2, List.length_append, List.map_append]; exact ⟨rfl, rfl⟩
        · have hk3 : k = ls.length := by omega
          subst hk3
          simp only [↓wt, wu, wk0, wk1, wk2, wk3, Nat.reduceAdd, Nat.reduceEqDiff, Nat.reduceLeDiff, Nat.reduceLT, Nat.reduceMul, Int.reduceLE, Int.reduceLT, Int.reduceEq, Int.reduceNe, wk4, laidS, keepS, List.take_length, Try.results42]
          exact exp_sl rfl (by rw [List.length_map]) (pureI _)
end Go.Ab

set_option linter.unusedSimpArgs false
set_option linter.unusedVariables false
set_option maxRecDepth 100000
namespace Go.Ab
open Go Go.Proofs

/-- A number's bytes. -/
def putL (n : Nat) : List UInt8 := if n < 128 then [UInt8.ofNat n] else UInt8.ofNat (n % 128 + 128) :: putL (n / 128)
theorem putL_low {n : Nat} (h : n < 128) : putL n = [UInt8.ofNat n] := by rw [putL, if_pos h]
theorem putL_high {n : Nat} (h : ¬ n < 128) : putL n = UInt8.ofNat (n % 128 + 128) :: putL (n / 128) := by rw [putL, if_neg h]
theorem putL_len : ∀ (k n : Nat), n < 128 ^ (k + 1) → (putL n).length ≤ k + 1
  | 0, n, h => by rw [putL_low (by simpa using h)]; simp
  | k + 1, n, h => by
    by_cases h1 : n < 128
    · rw [putL_low h1]; simp
    · rw [putL_high h1]
      have : n / 128 < 128 ^ (k + 1) := by
        rw [Nat.div_lt_iff_lt_mul (by decide)]
        rw [Nat.pow_succ] at h; exact h
      have := putL_len k (n / 128) this
      simp; omega
theorem putL_len10 {n : Nat} (h : n < 18446744073709551616) : (putL n).length ≤ 10 := putL_len 9 n (by omega)
theorem or128 (x : BitVec 8) : (x ||| 128#8).toNat = x.toNat % 128 + 128 := by
  revert x; decide
theorem encB_ofNat {k : Nat} (h : k < 256) : encB (UInt8.ofNat k) = .c (.int .u8 k) := by
  simp only [encB, UInt8.toNat_ofNat', Nat.mod_eq_of_lt h]
theorem put_byte (v : Nat) : AV.c (.int .u8 (IntKind.u8.wrap ((BitVec.ofInt IntKind.u8.bits (IntKind.u8.wrap (v : Int)) ||| BitVec.ofInt IntKind.u8.bits 128).toNat : Nat))) = encB (UInt8.ofNat (v % 128 + 128)) := by
  rw [encB_ofNat (by omega)]
  have h := or128 (BitVec.ofInt 8 (IntKind.u8.wrap (v : Int)))
  have h2 : (BitVec.ofInt 8 (IntKind.u8.wrap (v : Int))).toNat = v % 256 := by
    rw [wrap_u8, BitVec.toNat_ofInt]; omega
  rw [h2] at h
  have h3 : (BitVec.ofInt IntKind.u8.bits (IntKind.u8.wrap (v : Int)) ||| BitVec.ofInt IntKind.u8.bits 128).toNat = v % 256 % 128 + 128 := h
  rw [h3, wrap_u8]
  congr 2; omega

def put_I (x : List UInt8 × Nat) : ASt := ⟨[(1, .c (.int .u64 x.2)), (5, .s 0 0 x.1.length)], ⟨[(0, ⟨5, 1, x.1.map encB⟩)], 1⟩, 24⟩
theorem nput_call (l : List UInt8) (n : Nat) (hl : l.length ≤ 1000000000) (hn : n < 18446744073709551616) : PCall Try.prog 23 [Bs l, .c (.int .u64 n)] (.o 5 1 ((l ++ putL n).map encB)) := by
  refine pcall_body tabOk Try.func23 rfl rfl (by rw [Try.ntmps23]; simp) ?_
  simp only [Try.ntmps23, Bs]
  simp only [↓wt, wu, wk0, wk1, wk2, wk3, Nat.reduceAdd, Nat.reduceEqDiff, Nat.reduceLeDiff, Nat.reduceLT, Nat.reduceMul, Int.reduceLE, Int.reduceLT, Int.reduceEq, Int.reduceNe, wk4, laidS, keepS]
  have hlen := putL_len10 hn
  refine ⟨by omega, loop_rule tabOk put_I (fun x => x.1 ++ putL x.2 = l ++ putL n ∧ x.2 < 18446744073709551616) (fun x => x.2) (l, n) ⟨rfl, hn⟩ ?_ (fun _ => rfl) ?_⟩
  · simp only [↓wt, wu, wk0, wk1, wk2, wk3, wkf, Nat.reduceAdd, Nat.reduceEqDiff, Nat.reduceLeDiff, Nat.reduceLT, Nat.reduceMul, Int.reduceLE, Int.reduceLT, Int.reduceEq, Int.reduceNe, wk4, laidS, keepS, put_I]
  · rintro ⟨d, v⟩ ⟨h1, h2⟩
    have hd : d.length ≤ l.length + 10 := by
      have := congrArg List.length h1
      simp only [List.length_append] at this
      omega
    simp only [put_I]
    simp only [↓wt, wu, wk0, wk1, wk2, wk3, Nat.reduceAdd, Nat.reduceEqDiff, Nat.reduceLeDiff, Nat.reduceLT, Nat.reduceMul, Int.reduceLE, Int.reduceLT, Int.reduceEq, Int.reduceNe, wk4, laidS, keepS]
    refine r_cases (fun hc => ?_) (fun hc => ?_)
    · simp only [↓wt, wu, wk0, wk1, wk2, wk3, Nat.reduceAdd, Nat.reduceEqDiff, Nat.reduceLeDiff, Nat.reduceLT, Nat.reduceMul, Int.reduceLE, Int.reduceLT, Int.reduceEq, Int.reduceNe, wk4, laidS, keepS]
      have hv : 128 ≤ v := by have := of_decide_eq_true hc; omega
      refine ⟨by omega, (d ++ [UInt8.ofNat (v % 128 + 128)], v / 128), ⟨?_, by omega⟩, by omega, ?_⟩
      · rw [← h1, List.append_assoc]
        simp only [putL_high (Nat.not_lt.2 hv), List.cons_append, List.nil_append]
      · have e : (v : Int).fdiv (2 ^ min (Int.toNat 7) IntKind.u64.bits) = ((v / 128 : Nat) : Int) := shr_nat
        simp only [↓tk2, ↓tk3, ↓tk4, ↓tk5, ↓tk9, ↓tk12, ↓tk21, ↓tk22, ↓tk23, ↓tk24, ↓tk26, ↓tk27, ↓tk28, ↓tk29, ↓tk30, ↓tk31, ↓tk32, ↓tk33, ↓tk34, ↓tk35, ↓tk43, ↓tk46, ↓tk47, ↓tk48, ↓tk50, ↓tk52, ↓tk53, ↓tk59, ↓tk60, ↓tk62, ↓tk69, ↓tk70, ↓tk72, ↓tk74, ↓tk77, ↓tk78, ↓tk83, ↓tk95, ↓tk106, ↓tk108, ↓tk109, ↓tk112, ↓tk116, ↓tx2, ↓tx3, ↓tx4, ↓tx5, ↓tx9, ↓tx12, ↓tx21, ↓tx22, ↓tx23, ↓tx24, ↓tx26, ↓tx27, ↓tx28, ↓tx29, ↓tx30, ↓tx31, ↓tx32, ↓tx33, ↓tx34, ↓tx35, ↓tx43, ↓tx46, ↓tx47, ↓tx48, ↓tx50, ↓tx52, ↓tx53, ↓tx59, ↓tx60, ↓tx62, ↓tx69, ↓tx70, ↓tx72, ↓tx74, ↓tx77, ↓tx78, ↓tx83, ↓tx95, ↓tx106, ↓tx108, ↓tx109, ↓tx112, ↓tx116, isU8_5, ty2, ty3, ty4, ty5, ty9, ty12, ty21, ty22, ty23, ty24, ty26, ty27, ty28, ty29, ty30, ty31, ty32, ty33, ty34, ty35, ty43, ty46, ty47, ty48, ty50, ty52, ty53, ty59, ty60, ty62, ty69, ty70, ty72, ty74, ty77, ty78, ty83, ty95, ty106, ty108, ty109, ty112, ty116, mkSlots, Nat.zero_add, Nat.reduceAdd, r_skip, r_label, r_ret, r_exit, r_region, r_draw, r_seq, r_cond, r_block, r_loop, r_then, r_thenR, r_thenE, r_blockN, r_blockR, r_blockE, r_condT, r_condF, r_nil, r_op, r_opg, r_gS, r_gU, r_gTT, r_gFF, r_gTF, r_gFT, r_set, r_set0, r_setX, r_skS, r_atM, o_move, o_assign, o_pick, o_alloc, o_box, o_build, o_buildSlice, o_load, o_nilCheck, o_bin, o_un, o_conv, o_makeFunc, o_makeSlice, o_slice, o_fieldAddr, o_field, o_indexAddr, o_extract, o_callF, o_callV, o_len, o_append, o_max, o_min, o_store, slK_eq, stK_eq, blkK_sel, selK_eq, elem_0, elem_s, elem_B, ev_tmp, ev_const, ev_func, ev_global, cv_int, cv_bool, cv_string, cv_slice, cv_ptr, Slots.get, Mem.get, assoc, insert, nbeq, nble, cond_true, cond_false, Option.getD_some, Option.getD_none, Option.map_some, Option.map_none, Option.isNone_none, Option.isNone_some, Option.isSome_none, Option.isSome_some, Nat.reduceEqDiff, Nat.reduceLeDiff, Nat.reduceLT, decide_true, decide_false, true_and, and_true, if_true, if_false, List.map_nil, List.map_cons, List.length_nil, List.length_cons, List.range'_zero, List.range'_succ, List.getElem?_toArray, List.getElem?_cons_zero, List.getElem?_cons_succ, Option.bind_some, Nat.reduceMul, sliceK, AllVP, VOkA, VOkC, AllSz, viewP, viewA, viewC, idsP, idsA, idsC, Mem.without, Mem.drop, remove, newMem, Nat.zero_mul, Nat.zero_le, Nat.lt_add_one, Nat.zero_lt_one, appendK, dstK, okA, srcK, List.drop_zero, List.nil_append, List.length_map, Mem.put, Cells, Cell, AllCell, AV.cells, List.append_nil, List.cons_append, convK, intConvK, strConvK, bytesStrK, binK, strBinK, boolBinK, unK, Int.toNat_natCast, List.headD_cons, beq_int, maxK, minK, pickK, extractK, lenK, loadK, storeK, fieldK, fieldVK, idxK, cutK, bnds, bnd, boxK, allocK, zeroAV, part, ibin, ipre, TK.known, TK.agg, Bool.not_true, Bool.not_false, Bool.false_eq_true, thaw, thawLA, thawA, thawC, thawL, blks, blksLA, blksA, blksC, blksL, Mem.adds, retK, resK, oneK, tkAlt, tkAlt2, r_noGotoN, r_noGotoR, r_noGotoE, r_blockF, d_nil, d_op, d_opg, d_free, z_move, z_assign, z_pick, z_unOp, z_extract, z_convert, z_slice, z_field, z_load, z_indexAddr, z_fieldAddr, z_nilCheck, z_binOp, z_call, z_lit, z_set, litK, d_read, d_back, freeOk, readOk, notOwn, NoNil, mem0, cvK, litC, constK, nilCheckK, AllV, List.length_append, str_size, str_append, str_extract, strOf_B, isB_B, str_toList, str_data, mapB_take, mapB_drop, take_drop', Int.toNat_zero, Nat.sub_zero, Int.cast_ofNat_Int, Int.reduceLE, Int.reduceLT, Int.reduceEq, Int.reduceNe, bne_int, beq_self_eq_true, eq_self, imp_self, implies_true, Int.le_refl, Nat.le_refl, List.set_cons_zero, List.set_cons_succ, List.mem_cons, List.not_mem_nil, or_false, forall_eq_or_imp, forall_eq, false_implies, buildK, fillA, AllKnown, splice, mkEl, or_self, or_true, true_or, elem_I, encI_eq, mapI_take, mapI_drop, List.take_zero, List.headD_cons, List.take_succ_cons, List.getD_cons_zero, List.getD_cons_succ, List.drop_succ_cons, r_pin, x_alloc, x_box, x_build, x_buildSlice, x_load, x_conv, x_makeSlice, x_slice, x_append, x_store, x_indexAddr, o_clear, clearK, x_callF, r1_skip, r1_ret, r1_exit, r1_region, r1_loop, r1_scope, r1_seq, r1_cond, r1_block, r1_range, r_callV, r_callB, idx2K_s, idx2K_l, idx2K_g, bldK, arrK, sapK, arK_eq, o_sap, x_sap, r_mkf1, r_mkf2, frz, mapB, frzE, frzC, FOkE, FOk, SOk, BOk, Fits, slFit, memFit, under_c, under_s, under_x, under_p, under_l, underL_nil, underL_B, underL_B1, under_g, under_t, underL_I, underL_cons, List.mem_cons, List.not_mem_nil, or_false, forall_eq_or_imp, forall_eq, AV.cells, put_byte, underL_append, e, mapB_snoc]
    · have hv : v < 128 := by have := of_decide_eq_false hc; omega
      rw [putL_low hv] at h1
      have e : AV.c (.int .u8 (IntKind.u8.wrap (v : Int))) = encB (UInt8.ofNat v) := by
        rw [encB_ofNat (by omega), wrap_u8]; congr 2; omega
      simp only [↓tk2, ↓tk3, ↓tk4, ↓tk5, ↓tk9, ↓tk12, ↓tk21, ↓tk22, ↓tk23, ↓tk24, ↓tk26, ↓tk27, ↓tk28, ↓tk29, ↓tk30, ↓tk31, ↓tk32, ↓tk33, ↓tk34, ↓tk35, ↓tk43, ↓tk46, ↓tk47, ↓tk48, ↓tk50, ↓tk52, ↓tk53, ↓tk59, ↓tk60, ↓tk62, ↓tk69, ↓tk70, ↓tk72, ↓tk74, ↓tk77, ↓tk78, ↓tk83, ↓tk95, ↓tk106, ↓tk108, ↓tk109, ↓tk112, ↓tk116, ↓tx2, ↓tx3, ↓tx4, ↓tx5, ↓tx9, ↓tx12, ↓tx21, ↓tx22, ↓tx23, ↓tx24, ↓tx26, ↓tx27, ↓tx28, ↓tx29, ↓tx30, ↓tx31, ↓tx32, ↓tx33, ↓tx34, ↓tx35, ↓tx43, ↓tx46, ↓tx47, ↓tx48, ↓tx50, ↓tx52, ↓tx53, ↓tx59, ↓tx60, ↓tx62, ↓tx69, ↓tx70, ↓tx72, ↓tx74, ↓tx77, ↓tx78, ↓tx83, ↓tx95, ↓tx106, ↓tx108, ↓tx109, ↓tx112, ↓tx116, isU8_5, ty2, ty3, ty4, ty5, ty9, ty12, ty21, ty22, ty23, ty24, ty26, ty27, ty28, ty29, ty30, ty31, ty32, ty33, ty34, ty35, ty43, ty46, ty47, ty48, ty50, ty52, ty53, ty59, ty60, ty62, ty69, ty70, ty72, ty74, ty77, ty78, ty83, ty95, ty106, ty108, ty109, ty112, ty116, mkSlots, Nat.zero_add, Nat.reduceAdd, r_skip, r_label, r_ret, r_exit, r_region, r_draw, r_seq, r_cond, r_block, r_loop, r_then, r_thenR, r_thenE, r_blockN, r_blockR, r_blockE, r_condT, r_condF, r_nil, r_op, r_opg, r_gS, r_gU, r_gTT, r_gFF, r_gTF, r_gFT, r_set, r_set0, r_setX, r_skS, r_atM, o_move, o_assign, o_pick, o_alloc, o_box, o_build, o_buildSlice, o_load, o_nilCheck, o_bin, o_un, o_conv, o_makeFunc, o_makeSlice, o_slice, o_fieldAddr, o_field, o_indexAddr, o_extract, o_callF, o_callV, o_len, o_append, o_max, o_min, o_store, slK_eq, stK_eq, blkK_sel, selK_eq, elem_0, elem_s, elem_B, ev_tmp, ev_const, ev_func, ev_global, cv_int, cv_bool, cv_string, cv_slice, cv_ptr, Slots.get, Mem.get, assoc, insert, nbeq, nble, cond_true, cond_false, Option.getD_some, Option.getD_none, Option.map_some, Option.map_none, Option.isNone_none, Option.isNone_some, Option.isSome_none, Option.isSome_some, Nat.reduceEqDiff, Nat.reduceLeDiff, Nat.reduceLT, decide_true, decide_false, true_and, and_true, if_true, if_false, List.map_nil, List.map_cons, List.length_nil, List.length_cons, List.range'_zero, List.range'_succ, List.getElem?_toArray, List.getElem?_cons_zero, List.getElem?_cons_succ, Option.bind_some, Nat.reduceMul, sliceK, AllVP, VOkA, VOkC, AllSz, viewP, viewA, viewC, idsP, idsA, idsC, Mem.without, Mem.drop, remove, newMem, Nat.zero_mul, Nat.zero_le, Nat.lt_add_one, Nat.zero_lt_one, appendK, dstK, okA, srcK, List.drop_zero, List.nil_append, List.length_map, Mem.put, Cells, Cell, AllCell, AV.cells, List.append_nil, List.cons_append, convK, intConvK, strConvK, bytesStrK, binK, strBinK, boolBinK, unK, Int.toNat_natCast, List.headD_cons, beq_int, maxK, minK, pickK, extractK, lenK, loadK, storeK, fieldK, fieldVK, idxK, cutK, bnds, bnd, boxK, allocK, zeroAV, part, ibin, ipre, TK.known, TK.agg, Bool.not_true, Bool.not_false, Bool.false_eq_true, thaw, thawLA, thawA, thawC, thawL, blks, blksLA, blksA, blksC, blksL, Mem.adds, retK, resK, oneK, tkAlt, tkAlt2, r_noGotoN, r_noGotoR, r_noGotoE, r_blockF, d_nil, d_op, d_opg, d_free, z_move, z_assign, z_pick, z_unOp, z_extract, z_convert, z_slice, z_field, z_load, z_indexAddr, z_fieldAddr, z_nilCheck, z_binOp, z_call, z_lit, z_set, litK, d_read, d_back, freeOk, readOk, notOwn, NoNil, mem0, cvK, litC, constK, nilCheckK, AllV, List.length_append, str_size, str_append, str_extract, strOf_B, isB_B, str_toList, str_data, mapB_take, mapB_drop, take_drop', Int.toNat_zero, Nat.sub_zero, Int.cast_ofNat_Int, Int.reduceLE, Int.reduceLT, Int.reduceEq, Int.reduceNe, bne_int, beq_self_eq_true, eq_self, imp_self, implies_true, Int.le_refl, Nat.le_refl, List.set_cons_zero, List.set_cons_succ, List.mem_cons, List.not_mem_nil, or_false, forall_eq_or_imp, forall_eq, false_implies, buildK, fillA, AllKnown, splice, mkEl, or_self, or_true, true_or, elem_I, encI_eq, mapI_take, mapI_drop, List.take_zero, List.headD_cons, List.take_succ_cons, List.getD_cons_zero, List.getD_cons_succ, List.drop_succ_cons, r_pin, x_alloc, x_box, x_build, x_buildSlice, x_load, x_conv, x_makeSlice, x_slice, x_append, x_store, x_indexAddr, o_clear, clearK, x_callF, r1_skip, r1_ret, r1_exit, r1_region, r1_loop, r1_scope, r1_seq, r1_cond, r1_block, r1_range, r_callV, r_callB, idx2K_s, idx2K_l, idx2K_g, bldK, arrK, sapK, arK_eq, o_sap, x_sap, r_mkf1, r_mkf2, frz, mapB, frzE, frzC, FOkE, FOk, SOk, BOk, Try.results23]
      simp only [e, mapB_snoc, h1]
      exact ⟨by omega, exp_own rfl (by rw [← h1]; simp) (pureB _)⟩
end Go.Ab
