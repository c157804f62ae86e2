/- A contract from the kit's word on a call: a row of the callee's own, that .. -/
import Derived.Test.YtkikaagieknpdaaGreatTab
import Derived.Test.YtkikaagieknpdaaGreatAbG6
import Derived.Lib.AppendZerosOnto
import Derived.Lib.SliceRun
import Derived.Lib.Walk
import Derived.Shelf.Abstract
import Derived.Shelf.RegionOpenPlain
import Derived.Test.YtkikaagieknpdaaGreatAbG4
set_option linter.unusedSimpArgs false
set_option linter.unusedVariables false
set_option linter.constructorNameAsVariable false
set_option maxRecDepth 100000
open Nat (reduceAdd reduceMul reduceEqDiff reduceLeDiff)
open Int (reduceLE reduceLT reduceEq reduceNe)
namespace Go.Ab
open Go Go.Proofs Go.RowKit Go.Shelf
theorem pcall_room {P : Program} {f : FuncId} {args : List AV} {T : TypeId} (h1 : ∃ fn, P.funcs[f]? = some fn ∧ fn.body.isNone = false ∧ (fn.name == "runtime.NumGoroutine") = false)
 (h : ∀ (E : Env) (vs : Array Value), vs.size = args.length → (∀ i (h1 : i < args.length) (h2 : i < vs.size), Rep E args[i] vs[i]) →
  Calls P f vs E.w fun e w' => Below E.w.heap.size E.w w' ∧ (e = .returned (.slice none 0 0) ∨ ∃ b G arr, e = .returned (.slice (some ⟨b, 0, none⟩) 0 G) ∧ E.w.heap.size ≤ b ∧ w'.heap[b]? = some (.cells arr T (0, 0)) ∧ arr.size = G ∧ G ≤ maxLen)) (hT : T ≠ U8T := by decide) :
 PCall P f args (.o T 1 []) := by
 refine ⟨h1, fun w0 E vs hg hs hr => Calls.mono' (h E vs hs hr) ?_⟩
 rintro e w' ⟨hb, hcase⟩
 obtain ⟨g1, g2⟩ := hg.grow hb
 have hk : E.k = 0 := hg.k.symm
 have had : ∀ id, E.ad id = none := fun id => hg.gone id rfl
 -- the moment behind: one block of the call's own
 have fin : ∀ (q : At) (v : Value), q.sz = 1 → q.n = 0 → (0 < q.cp → E.w.heap.size ≤ q.b ∧ Backed ⟨w', fun i => if i = 0 then some q else none, 1, E.hid⟩ q ⟨T, 1, []⟩) → Rep ⟨w', fun i => if i = 0 then some q else none, 1, E.hid⟩ (.s 0 0 0) v →
  ∃ v' E' M' a, Ending.returned v = .returned v' ∧ E'.w = w' ∧ Good w0 E' M' ∧ Later E E' ∧ Rep E' a v' ∧ Exp M' a (.o T 1 []) := fun q v q1 q2 q3 q4 => by
  refine ⟨v, ⟨w', fun i => if i = 0 then some q else none, 1, E.hid⟩, ⟨[(0, ⟨T, 1, []⟩)], 1⟩, .s 0 0 0, rfl, rfl, ?_, ?_, q4, exp_own rfl rfl (fun i h => absurd h (by simp))⟩
  · refine ⟨g1.below, rfl, fun id q' hq => ?_, fun id hM => ?_, fun id blk hM => ?_, fun id q' hq hcp hh => ?_, fun b0 h0 => Nat.lt_of_lt_of_le (hg.old b0 h0) hb.size, fun i i' q1' q2' hne h1 h2 => ?_⟩
    · by_cases e : id = 0
      · subst e; exact Nat.lt_succ_self _
      · simp [e] at hq
    · by_cases e : id = 0
      · subst e; simp [Mem.get, assoc] at hM
      · simp [e]
    · by_cases e : id = 0
      · subst e
        simp only [Mem.get, assoc, Nat.beq_refl, cond_true, Option.some.injEq] at hM
        subst hM
        exact ⟨q, by simp, q1, by simpa using q2, by omega, fun hcp => ⟨Nat.le_trans hg.below.size (q3 hcp).1, (q3 hcp).2⟩⟩
      · simp [Mem.get, assoc, beq_ne (Ne.symm e)] at hM
    · by_cases e : id = 0
      · subst e
        simp only [if_true, Option.some.injEq] at hq
        subst hq
        have := hg.old _ hh
        have := (q3 hcp).1
        have := hg.below.size
        omega
      · simp [e] at hq
    · by_cases e : i = 0
      · by_cases e' : i' = 0
        · exact absurd (e.trans e'.symm) hne
        · simp [e'] at h2
      · simp [e] at h1
  · refine ⟨fun b hb' => ⟨⟨(g2.z b hb').1.1, hb'.2.1, fun id q' hq hcp => ?_⟩, (g2.z b hb').2⟩, by show E.k ≤ 1; omega, fun id hid q' hq => by omega, rfl, g2.hs⟩
    by_cases e : id = 0
    · subst e
      simp only [if_true, Option.some.injEq] at hq
      subst hq
      have := (q3 hcp).1
      have := hb'.1
      omega
    · simp [e] at hq
 rcases hcase with rfl | ⟨b, G, arr, rfl, c1, c2, c3, c4⟩
 · exact .inl (fin ⟨0, 1, 0, 0⟩ _ rfl rfl (fun h => absurd h (by simp)) (.s 0 0 0 none 0 (by simp) fun q' hq => by
    simp only [if_true, Option.some.injEq] at hq
    subst hq
    exact ⟨Nat.le_refl _, fun _ => ⟨rfl, fun h => absurd h (by simp)⟩⟩))
 · exact .inl (fin ⟨b, 1, 0, G⟩ _ rfl rfl (fun _ => ⟨c1, c4, arr, c2, ⟨by simpa using c3, fun h => absurd h hT⟩, fun i h => absurd h (by simp)⟩) (.s 0 0 0 _ G (by simp) fun q' hq => by
    simp only [if_true, Option.some.injEq] at hq
    subst hq
    exact ⟨Nat.le_refl _, fun _ => ⟨by simp, fun _ => by simp⟩⟩))
end Go.Ab
namespace Go.Ab
open Go Go.Proofs Go.RowKit Go.Shelf
theorem infoI : (Tryz.prog.info? 2).map (fun i => (i.zero, i.size, i.bytes)) = some (some (.int .i64 0), 1, 8) := by kernel_rfl
set_option maxHeartbeats 4000000 in
theorem growI_in (n : Nat) (hn : n ≤ 1000000000) (w : World) : Calls Tryz.prog 100 #[.slice none 0 0, .int .i64 n] w fun e w' =>
 Below w.heap.size w w' ∧ (e = .returned (.slice none 0 0) ∨ ∃ b G arr, e = .returned (.slice (some ⟨b, 0, none⟩) 0 G) ∧ w.heap.size ≤ b ∧ w'.heap[b]? = some (.cells arr 2 (0, 0)) ∧ arr.size = G ∧ G ≤ maxLen) := by
 by_cases h0 : n = 0
 · subst h0
   go_enter Tryz.func100, Tryz.ntmps100
   go_wp2
   go_ret
   exact ⟨Below.refl _ _, .inl rfl⟩
 · obtain ⟨i0, hi, hz0, hz1, hz2⟩ := info_parts infoI
   have hold : (Builtin.firstCells i0.size 0 (.slice none 0 0)).run Tryz.prog w.drew = .ok (([] : List Value).toArray) w.drew := run_firstCells_none w.drew i0.size 0 0 0
   have hrz : ∀ ty, (Builtin.append_ #[33, 3] ty #[.slice none 0 0, .int .i64 (n : Int)]).run Tryz.prog w =
    .ok (.slice (some ⟨w.heap.size, 0, none⟩) n (grownCap w n 0 2)) (w.drew.alloc (.cells (Builtin.zeroCells (Value.int .i64 0).cells n ++ Builtin.zeroCells (Value.int .i64 0).cells (grownCap w n 0 2 - n)) 2)) := fun ty => by
    have h := Lib.run_append_grow_zeros w 33 3 ty 2 i0 (.int .i64 0) .i64 .i64 Tryz.underlying33 Tryz.underlying3 hi hz0 none 0 0 [] hold n (by omega) (by omega) (by omega) (by omega) (by rw [hz2]; omega) (by rw [hz2]; exact growslice_fits (by omega) (by omega))
    simpa using h
   have hG1 : n ≤ grownCap w n 0 2 := grownCap_ge w _ _ _
   have hG2 : grownCap w n 0 2 ≤ maxLen := grownCap_le_maxLen w n 0 2 (by unfold maxLen; omega)
   obtain ⟨G, hG⟩ : ∃ G, G = grownCap w n 0 2 := ⟨_, rfl⟩
   rw [← hG] at hrz hG1 hG2
   have hG3 : G ≤ 9223372036854775807 := by unfold maxLen at hG2; omega
   have h1 : ¬ ((n : Int) < 0) := by omega
   have h3 : wrap64 ((n : Int) - 0) = (n : Int) := by unfold wrap64; omega
   have h4 : (n : Int) > 0 := by omega
   clear hold hG
   go_enter Tryz.func100, Tryz.ntmps100
   go_wp2_with (at_builtin; refine Lib.wpList_append_run _ rfl _ _ _ _ rfl _ _ rfl rfl _ _ (hrz _) ?_)
   all_goals go_ret
   refine ⟨((Below.refl _ w).alloc (Nat.le_refl _) _).drew, .inr ⟨w.heap.size, G, rfl, Nat.le_refl _, _, World.alloc_heap_new w (.cells (Builtin.zeroCells #[Value.int .i64 0] n ++ Builtin.zeroCells #[Value.int .i64 0] (G - n)) 2), ?_, hG2⟩⟩
   simp [Builtin.zeroCells]
   omega
theorem growI_call (n : Nat) (hn : n ≤ 1000000000) : PCall Tryz.prog 100 [.c (.slice none 0 0), .c (.int .i64 n)] (.o 2 1 []) := by
 refine pcall_room ⟨_, Tryz.func100, rfl, rfl⟩ fun E vs hs hr => ?_
 match vs, hs, hr with
 | ⟨[a, b]⟩, _, hr =>
  have h0 := hr 0 (by simp) (by simp)
  have h1 := hr 1 (by simp) (by simp)
  simp only [List.getElem_cons_zero, List.getElem_cons_succ, List.getElem_toArray] at h0 h1
  cases h0
  cases h1
  exact growI_in n hn E.w
def Is (l : List Int) : AV := .l 1 (l.map encI)
theorem under_Is {k : Nat} {l : List Int} : Under k (Is l) = True := by rw [Is, under_l, underL_I]
theorem cells_Is {l : List Int} : (Is l).cells = [Is l] := rfl
theorem underL_Is {k : Nat} {ls : List (List Int)} : UnderL k (ls.map Is) = True := by
 induction ls with
 | nil => simp [underL_nil]
 | cons a l ih => simp only [List.map_cons, underL_cons, ih, cells_Is, List.mem_singleton, forall_eq, under_Is, and_self]
theorem elem_Is {ls : List (List Int)} {i : Nat} {K : AV → Prop} : Elem (ls.map Is) i K = (i < ls.length ∧ K (Is (ls.getD i []))) := by
 simp only [Elem, List.length_map, List.getElem_map, eq_iff_iff]
 constructor
 · rintro ⟨h, k⟩
   refine ⟨h, ?_⟩
   rw [List.getD_eq_getElem?_getD, List.getElem?_eq_getElem h]; exact k
 · rintro ⟨h, k⟩
   refine ⟨h, ?_⟩
   rw [List.getD_eq_getElem?_getD, List.getElem?_eq_getElem h] at k; exact k
theorem flat_snoc {α : Type} {ls : List (List α)} {k : Nat} (h : k < ls.length) : (ls.take (k + 1)).flatten = (ls.take k).flatten ++ ls.getD k [] := by
 rw [List.take_add_one, List.getElem?_eq_getElem h, List.getD_eq_getElem?_getD, List.getElem?_eq_getElem h, List.flatten_append]
 simp only [Option.toList_some, Option.getD_some, List.flatten_cons, List.flatten_nil, List.append_nil]
theorem flat_le {α : Type} {ls : List (List α)} {k : Nat} : (ls.take k).flatten.length ≤ ls.flatten.length := by
 have : ls.flatten = (ls.take k).flatten ++ (ls.drop k).flatten := by rw [← List.flatten_append, List.take_append_drop]
 rw [this, List.length_append]; omega
def ci_I (ls : List (List Int)) (k : Nat) : ASt :=
 ⟨[(0, .l 1 (ls.map Is)), (3, .c (.int .i64 (ls.take k).flatten.length)), (9, .l 1 (ls.map Is)), (10, .c (.int .i64 ls.length)), (11, .c (.int .i64 k))], ⟨[], 0⟩, 36⟩
def ci_J (ls : List (List Int)) (k : Nat) : ASt :=
 ⟨[(6, .s 0 0 (ls.take k).flatten.length), (25, .l 1 (ls.map Is)), (26, .c (.int .i64 ls.length)), (27, .c (.int .i64 k))], ⟨[(0, ⟨2, 1, (ls.take k).flatten.map encI⟩)], 1⟩, 36⟩
set_option maxHeartbeats 1000000 in
theorem concatI_call (ls : List (List Int)) (hl : ls.length < 1000000000) (hf : ls.flatten.length ≤ 1000000000) : PCall Tryz.prog 73 [.l 1 (ls.map Is)] (Is ls.flatten) := by
 refine pcall_body tabOk Tryz.func73 rfl rfl (by rw [Tryz.ntmps73]; simp) ?_
 simp only [Tryz.ntmps73]
 simp only [↓wt, wz, reduceAdd, reduceMul, reduceEqDiff, reduceLeDiff, Nat.reduceLT, reduceLE, reduceLT, reduceEq, reduceNe]
 refine loop_rule tabOk (ci_I ls) (fun k => k ≤ ls.length) (fun k => ls.length - k) 0 (Nat.zero_le _) ?_ (fun _ => rfl) ?_
 · simp only [↓wt, wz, wkf, reduceAdd, reduceMul, reduceEqDiff, reduceLeDiff, Nat.reduceLT, reduceLE, reduceLT, reduceEq, reduceNe, ci_I, underL_Is, List.take_zero, List.flatten_nil]
   try rfl
 · intro k hk
   simp only [ci_I]
   simp only [↓wt, wz, reduceAdd, reduceMul, reduceEqDiff, reduceLeDiff, Nat.reduceLT, reduceLE, reduceLT, reduceEq, reduceNe]
   refine r_casesP (fun hc => ?_) (fun hc => ?_)
   · have hk2 : k < ls.length := by omega
     have h1 := flat_le (ls := ls) (k := k + 1)
     rw [flat_snoc hk2, List.length_append] at h1
     have e2 : IntKind.i64.wrap (((ls.take k).flatten.length : Int) + ((ls.getD k []).length : Int)) = (((ls.take (k + 1)).flatten.length : Nat) : Int) := by
      rw [flat_snoc hk2, List.length_append, wrap_i64 (by omega) (by omega)]; push_cast; rfl
     have e1 : IntKind.i64.wrap ((k : Int) + 1) = ((k + 1 : Nat) : Int) := by rw [wrap_i64 (by omega) (by omega)]; omega
     have e3 : decide ((((ls.take (k + 1)).flatten.length : Nat) : Int) < 0) = false := decide_eq_false (by omega)
     simp only [↓wt, wz, reduceAdd, reduceMul, reduceEqDiff, reduceLeDiff, Nat.reduceLT, reduceLE, reduceLT, reduceEq, reduceNe, elem_Is, Is, e1, e2, e3]
     repeat (refine And.intro (by omega) ?_)
     refine ⟨k + 1, by omega, by omega, ?_⟩
     simp only [↓wt, wz, wkf, reduceAdd, reduceMul, reduceEqDiff, reduceLeDiff, Nat.reduceLT, reduceLE, reduceLT, reduceEq, reduceNe, ci_I, underL_Is, e1, e2]
   · have hk3 : k = ls.length := by omega
     subst hk3
     simp only [↓wt, wz, reduceAdd, reduceMul, reduceEqDiff, reduceLeDiff, Nat.reduceLT, reduceLE, reduceLT, reduceEq, reduceNe, List.take_length]
     refine icall_drop [] (growI_call _ hf) ⟨arg_c, arg_c, trivial⟩ (fun i h => absurd h (by simp)) ?_
     simp only [↓wt, wz, reduceAdd, reduceMul, reduceEqDiff, reduceLeDiff, Nat.reduceLT, reduceLE, reduceLT, reduceEq, reduceNe]
     refine loop_rule tabOk (ci_J ls) (fun k => k ≤ ls.length) (fun k => ls.length - k) 0 (Nat.zero_le _) ?_ (fun _ => rfl) ?_
     · simp only [↓wt, wz, wkf, reduceAdd, reduceMul, reduceEqDiff, reduceLeDiff, Nat.reduceLT, reduceLE, reduceLT, reduceEq, reduceNe, ci_J, underL_Is, List.take_zero, List.flatten_nil]
       try rfl
     · intro k hk
       simp only [ci_J]
       simp only [↓wt, wz, reduceAdd, reduceMul, reduceEqDiff, reduceLeDiff, Nat.reduceLT, reduceLE, reduceLT, reduceEq, reduceNe]
       refine r_casesP (fun hc => ?_) (fun hc => ?_)
       · have hk2 : k < ls.length := by omega
         have h1 := flat_le (ls := ls) (k := k + 1)
         rw [flat_snoc hk2, List.length_append] at h1
         have e1 : IntKind.i64.wrap ((k : Int) + 1) = ((k + 1 : Nat) : Int) := by rw [wrap_i64 (by omega) (by omega)]; omega
         simp only [↓wt, wz, reduceAdd, reduceMul, reduceEqDiff, reduceLeDiff, Nat.reduceLT, reduceLE, reduceLT, reduceEq, reduceNe, elem_Is, Is, e1]
         repeat (refine And.intro (by omega) ?_)
         refine ⟨k + 1, by omega, by omega, ?_⟩
         simp only [↓wt, wz, wkf, reduceAdd, reduceMul, reduceEqDiff, reduceLeDiff, Nat.reduceLT, reduceLE, reduceLT, reduceEq, reduceNe, ci_J, underL_Is, e1, underL_append, underL_I]
         rw [flat_snoc hk2, List.length_append, List.map_append]; exact ⟨rfl, rfl⟩
       · have hk3 : k = ls.length := by omega
         subst hk3
         simp only [↓wt, wz, reduceAdd, reduceMul, reduceEqDiff, reduceLeDiff, Nat.reduceLT, reduceLE, reduceLT, reduceEq, reduceNe, List.take_length, Tryz.results73]
         exact exp_sl rfl (by rw [List.length_map]) (pureI _)
end Go.Ab
namespace Go.Ab
open Go Go.Proofs
def putL (n : Nat) : List UInt8 := if n < 128 then [UInt8.ofNat n] else UInt8.ofNat (n % 128 + 128) :: putL (n / 128)
theorem putL_low {n : Nat} (h : n < 128) : putL n = [UInt8.ofNat n] := by rw [putL, if_pos h]
theorem putL_high {n : Nat} (h : ¬ n < 128) : putL n = UInt8.ofNat (n % 128 + 128) :: putL (n / 128) := by rw [putL, if_neg h]
theorem putL_len : ∀ (k n : Nat), n < 128 ^ (k + 1) → (putL n).length ≤ k + 1
 | 0, n, h => by rw [putL_low (by simpa using h)]; simp
 | k + 1, n, h => by
  by_cases h1 : n < 128
  · rw [putL_low h1]; simp
  · rw [putL_high h1]
    have : n / 128 < 128 ^ (k + 1) := by
     rw [Nat.div_lt_iff_lt_mul (by decide)]
     rw [Nat.pow_succ] at h; exact h
    have := putL_len k (n / 128) this
    simp; omega
theorem putL_len10 {n : Nat} (h : n < 18446744073709551616) : (putL n).length ≤ 10 := putL_len 9 n (by omega)
theorem or128 (x : BitVec 8) : (x ||| 128#8).toNat = x.toNat % 128 + 128 := by
 revert x; decide
theorem encB_ofNat {k : Nat} (h : k < 256) : encB (UInt8.ofNat k) = .c (.int .u8 k) := by
 simp only [encB, UInt8.toNat_ofNat', Nat.mod_eq_of_lt h]
theorem put_byte (v : Nat) : AV.c (.int .u8 (IntKind.u8.wrap ((BitVec.ofInt IntKind.u8.bits (IntKind.u8.wrap (v : Int)) ||| BitVec.ofInt IntKind.u8.bits 128).toNat : Nat))) = encB (UInt8.ofNat (v % 128 + 128)) := by
 rw [encB_ofNat (by omega)]
 have h := or128 (BitVec.ofInt 8 (IntKind.u8.wrap (v : Int)))
 have h2 : (BitVec.ofInt 8 (IntKind.u8.wrap (v : Int))).toNat = v % 256 := by
  rw [wrap_u8, BitVec.toNat_ofInt]; omega
 rw [h2] at h
 have h3 : (BitVec.ofInt IntKind.u8.bits (IntKind.u8.wrap (v : Int)) ||| BitVec.ofInt IntKind.u8.bits 128).toNat = v % 256 % 128 + 128 := h
 rw [h3, wrap_u8]
 congr 2; omega
def put_I (x : List UInt8 × Nat) : ASt := ⟨[(1, .c (.int .u64 x.2)), (5, .s 0 0 x.1.length)], ⟨[(0, ⟨5, 1, x.1.map encB⟩)], 1⟩, 24⟩
theorem nput_call (l : List UInt8) (n : Nat) (hl : l.length ≤ 1000000000) (hn : n < 18446744073709551616) : PCall Tryz.prog 32 [Bs l, .c (.int .u64 n)] (.o 5 1 ((l ++ putL n).map encB)) := by
 refine pcall_body tabOk Tryz.func32 rfl rfl (by rw [Tryz.ntmps32]; simp) ?_
 simp only [Tryz.ntmps32, Bs]
 simp only [↓wt, wz, reduceAdd, reduceMul, reduceEqDiff, reduceLeDiff, Nat.reduceLT, reduceLE, reduceLT, reduceEq, reduceNe]
 have hlen := putL_len10 hn
 refine ⟨by omega, loop_rule tabOk put_I (fun x => x.1 ++ putL x.2 = l ++ putL n ∧ x.2 < 18446744073709551616) (fun x => x.2) (l, n) ⟨rfl, hn⟩ ?_ (fun _ => rfl) ?_⟩
 · simp only [↓wt, wz, wkf, reduceAdd, reduceMul, reduceEqDiff, reduceLeDiff, Nat.reduceLT, reduceLE, reduceLT, reduceEq, reduceNe, put_I]
 · rintro ⟨d, v⟩ ⟨h1, h2⟩
   have hd : d.length ≤ l.length + 10 := by
    have := congrArg List.length h1
    simp only [List.length_append] at this
    omega
   simp only [put_I]
   simp only [↓wt, wz, reduceAdd, reduceMul, reduceEqDiff, reduceLeDiff, Nat.reduceLT, reduceLE, reduceLT, reduceEq, reduceNe]
   refine r_cases (fun hc => ?_) (fun hc => ?_)
   · simp only [↓wt, wz, reduceAdd, reduceMul, reduceEqDiff, reduceLeDiff, Nat.reduceLT, reduceLE, reduceLT, reduceEq, reduceNe]
     have hv : 128 ≤ v := by have := of_decide_eq_true hc; omega
     refine ⟨by omega, (d ++ [UInt8.ofNat (v % 128 + 128)], v / 128), ⟨?_, by omega⟩, by omega, ?_⟩
     · rw [← h1, List.append_assoc]
       simp only [putL_high (Nat.not_lt.2 hv), List.cons_append, List.nil_append]
     · have e : (v : Int).fdiv (2 ^ min (Int.toNat 7) IntKind.u64.bits) = ((v / 128 : Nat) : Int) := shr_nat
       simp only [↓tk2, ↓tk3, ↓tk4, ↓tk5, ↓tk9, ↓tk12, ↓tk21, ↓tk22, ↓tk23, ↓tk24, ↓tk26, ↓tk27, ↓tk28, ↓tk29, ↓tk30, ↓tk31, ↓tk32, ↓tk33, ↓tk34, ↓tk35, ↓tk36, ↓tk37, ↓tk47, ↓tk49, ↓tk52, ↓tk53, ↓tk55, ↓tk56, ↓tk57, ↓tk65, ↓tk66, ↓tk67, ↓tk68, ↓tk69, ↓tk70, ↓tk71, ↓tk72, ↓tk80, ↓tk111, ↓tk112, ↓tk114, ↓tk126, ↓tk127, ↓tk136, ↓tk142, ↓tk151, ↓tk153, ↓tk155, ↓tk156, ↓tk158, ↓tk162, ↓tx2, ↓tx3, ↓tx4, ↓tx5, ↓tx9, ↓tx12, ↓tx21, ↓tx22, ↓tx23, ↓tx24, ↓tx26, ↓tx27, ↓tx28, ↓tx29, ↓tx30, ↓tx31, ↓tx32, ↓tx33, ↓tx34, ↓tx35, ↓tx36, ↓tx37, ↓tx47, ↓tx49, ↓tx52, ↓tx53, ↓tx55, ↓tx56, ↓tx57, ↓tx65, ↓tx66, ↓tx67, ↓tx68, ↓tx69, ↓tx70, ↓tx71, ↓tx72, ↓tx80, ↓tx111, ↓tx112, ↓tx114, ↓tx126, ↓tx127, ↓tx136, ↓tx142, ↓tx151, ↓tx153, ↓tx155, ↓tx156, ↓tx158, ↓tx162, isU8_5, ty2, ty3, ty4, ty5, ty9, ty12, ty21, ty22, ty23, ty24, ty26, ty27, ty28, ty29, ty30, ty31, ty32, ty33, ty34, ty35, ty36, ty37, ty47, ty49, ty52, ty53, ty55, ty56, ty57, ty65, ty66, ty67, ty68, ty69, ty70, ty71, ty72, ty80, ty111, ty112, ty114, ty126, ty127, ty136, ty142, ty151, ty153, ty155, ty156, ty158, ty162, mkSlots, Nat.zero_add, Nat.reduceAdd, r_skip, r_label, r_ret, r_exit, r_region, r_draw, r_seq, r_cond, r_block, r_loop, r_then, r_thenR, r_thenE, r_blockN, r_blockR, r_blockE, r_condT, r_condF, r_nil, r_op, r_opg, r_gS, r_gU, r_gTT, r_gFF, r_gTF, r_gFT, r_set, r_set0, r_setX, r_skS, r_atM, o_move, o_assign, o_pick, o_alloc, o_box, o_build, o_buildSlice, o_load, o_nilCheck, o_bin, o_un, o_conv, o_makeFunc, o_makeSlice, o_slice, o_fieldAddr, o_field, o_indexAddr, o_extract, o_callF, o_callV, o_len, o_append, o_max, o_min, o_store, slK_eq, stK_eq, blkK_sel, selK_eq, elem_0, elem_s, elem_B, ev_tmp, ev_const, ev_func, ev_global, cv_int, cv_bool, cv_string, cv_slice, cv_ptr, Slots.get, Mem.get, assoc, insert, nbeq, nble, cond_true, cond_false, Option.getD_some, Option.getD_none, Option.map_some, Option.map_none, Option.isNone_none, Option.isNone_some, Option.isSome_none, Option.isSome_some, Nat.reduceEqDiff, Nat.reduceLeDiff, Nat.reduceLT, decide_true, decide_false, true_and, and_true, if_true, if_false, List.map_nil, List.map_cons, List.length_nil, List.length_cons, List.range'_zero, List.range'_succ, List.getElem?_toArray, List.getElem?_cons_zero, List.getElem?_cons_succ, Option.bind_some, Nat.reduceMul, sliceK, AllVP, VOkA, VOkC, AllSz, viewP, viewA, viewC, idsP, idsA, idsC, Mem.without, Mem.drop, remove, newMem, Nat.zero_mul, Nat.zero_le, Nat.lt_add_one, Nat.zero_lt_one, appendK, dstK, okA, srcK, List.drop_zero, List.nil_append, List.length_map, Mem.put, Cells, Cell, AllCell, AV.cells, List.append_nil, List.cons_append, convK, intConvK, strConvK, bytesStrK, binK, strBinK, boolBinK, unK, Int.toNat_natCast, List.headD_cons, beq_int, maxK, minK, pickK, extractK, lenK, loadK, storeK, fieldK, fieldVK, idxK, cutK, bnds, bnd, boxK, allocK, zeroAV, part, ibin, ipre, TK.known, TK.agg, Bool.not_true, Bool.not_false, Bool.false_eq_true, thaw, thawLA, thawA, thawC, thawL, blks, blksLA, blksA, blksC, blksL, Mem.adds, retK, resK, oneK, tkAlt, tkAlt2, r_noGotoN, r_noGotoR, r_noGotoE, r_blockF, d_nil, d_op, d_opg, d_free, z_move, z_assign, z_pick, z_unOp, z_extract, z_convert, z_slice, z_field, z_load, z_indexAddr, z_fieldAddr, z_nilCheck, z_binOp, z_call, z_lit, z_set, litK, d_read, d_back, freeOk, readOk, notOwn, NoNil, mem0, cvK, litC, constK, nilCheckK, AllV, List.length_append, str_size, str_append, str_extract, strOf_B, isB_B, str_toList, str_data, mapB_take, mapB_drop, take_drop', Int.toNat_zero, Nat.sub_zero, Int.cast_ofNat_Int, Int.reduceLE, Int.reduceLT, Int.reduceEq, Int.reduceNe, bne_int, beq_self_eq_true, eq_self, imp_self, implies_true, Int.le_refl, Nat.le_refl, List.set_cons_zero, List.set_cons_succ, List.mem_cons, List.not_mem_nil, or_false, forall_eq_or_imp, forall_eq, false_implies, buildK, fillA, AllKnown, splice, mkEl, or_self, or_true, true_or, elem_I, encI_eq, mapI_take, mapI_drop, List.take_zero, List.headD_cons, List.take_succ_cons, List.getD_cons_zero, List.getD_cons_succ, List.drop_succ_cons, r_pin, x_alloc, x_box, x_build, x_buildSlice, x_load, x_conv, x_makeSlice, x_slice, x_append, x_store, x_indexAddr, o_clear, clearK, x_callF, r1_skip, r1_ret, r1_exit, r1_region, r1_loop, r1_scope, r1_seq, r1_cond, r1_block, r1_range, r_callV, r_callB, idx2K_s, idx2K_l, idx2K_g, bldK, arrK, sapK, arK_eq, o_sap, x_sap, r_mkf1, r_mkf2, frz, mapB, frzE, frzC, FOkE, FOk, SOk, BOk, Fits, slFit, memFit, under_c, under_s, under_x, under_p, under_l, underL_nil, underL_B, underL_B1, under_g, under_t, underL_I, underL_cons, List.mem_cons, List.not_mem_nil, or_false, forall_eq_or_imp, forall_eq, AV.cells, put_byte, underL_append, e, mapB_snoc]
   · have hv : v < 128 := by have := of_decide_eq_false hc; omega
     rw [putL_low hv] at h1
     have e : AV.c (.int .u8 (IntKind.u8.wrap (v : Int))) = encB (UInt8.ofNat v) := by
      rw [encB_ofNat (by omega), wrap_u8]; congr 2; omega
     simp only [↓tk2, ↓tk3, ↓tk4, ↓tk5, ↓tk9, ↓tk12, ↓tk21, ↓tk22, ↓tk23, ↓tk24, ↓tk26, ↓tk27, ↓tk28, ↓tk29, ↓tk30, ↓tk31, ↓tk32, ↓tk33, ↓tk34, ↓tk35, ↓tk36, ↓tk37, ↓tk47, ↓tk49, ↓tk52, ↓tk53, ↓tk55, ↓tk56, ↓tk57, ↓tk65, ↓tk66, ↓tk67, ↓tk68, ↓tk69, ↓tk70, ↓tk71, ↓tk72, ↓tk80, ↓tk111, ↓tk112, ↓tk114, ↓tk126, ↓tk127, ↓tk136, ↓tk142, ↓tk151, ↓tk153, ↓tk155, ↓tk156, ↓tk158, ↓tk162, ↓tx2, ↓tx3, ↓tx4, ↓tx5, ↓tx9, ↓tx12, ↓tx21, ↓tx22, ↓tx23, ↓tx24, ↓tx26, ↓tx27, ↓tx28, ↓tx29, ↓tx30, ↓tx31, ↓tx32, ↓tx33, ↓tx34, ↓tx35, ↓tx36, ↓tx37, ↓tx47, ↓tx49, ↓tx52, ↓tx53, ↓tx55, ↓tx56, ↓tx57, ↓tx65, ↓tx66, ↓tx67, ↓tx68, ↓tx69, ↓tx70, ↓tx71, ↓tx72, ↓tx80, ↓tx111, ↓tx112, ↓tx114, ↓tx126, ↓tx127, ↓tx136, ↓tx142, ↓tx151, ↓tx153, ↓tx155, ↓tx156, ↓tx158, ↓tx162, isU8_5, ty2, ty3, ty4, ty5, ty9, ty12, ty21, ty22, ty23, ty24, ty26, ty27, ty28, ty29, ty30, ty31, ty32, ty33, ty34, ty35, ty36, ty37, ty47, ty49, ty52, ty53, ty55, ty56, ty57, ty65, ty66, ty67, ty68, ty69, ty70, ty71, ty72, ty80, ty111, ty112, ty114, ty126, ty127, ty136, ty142, ty151, ty153, ty155, ty156, ty158, ty162, mkSlots, Nat.zero_add, Nat.reduceAdd, r_skip, r_label, r_ret, r_exit, r_region, r_draw, r_seq, r_cond, r_block, r_loop, r_then, r_thenR, r_thenE, r_blockN, r_blockR, r_blockE, r_condT, r_condF, r_nil, r_op, r_opg, r_gS, r_gU, r_gTT, r_gFF, r_gTF, r_gFT, r_set, r_set0, r_setX, r_skS, r_atM, o_move, o_assign, o_pick, o_alloc, o_box, o_build, o_buildSlice, o_load, o_nilCheck, o_bin, o_un, o_conv, o_makeFunc, o_makeSlice, o_slice, o_fieldAddr, o_field, o_indexAddr, o_extract, o_callF, o_callV, o_len, o_append, o_max, o_min, o_store, slK_eq, stK_eq, blkK_sel, selK_eq, elem_0, elem_s, elem_B, ev_tmp, ev_const, ev_func, ev_global, cv_int, cv_bool, cv_string, cv_slice, cv_ptr, Slots.get, Mem.get, assoc, insert, nbeq, nble, cond_true, cond_false, Option.getD_some, Option.getD_none, Option.map_some, Option.map_none, Option.isNone_none, Option.isNone_some, Option.isSome_none, Option.isSome_some, Nat.reduceEqDiff, Nat.reduceLeDiff, Nat.reduceLT, decide_true, decide_false, true_and, and_true, if_true, if_false, List.map_nil, List.map_cons, List.length_nil, List.length_cons, List.range'_zero, List.range'_succ, List.getElem?_toArray, List.getElem?_cons_zero, List.getElem?_cons_succ, Option.bind_some, Nat.reduceMul, sliceK, AllVP, VOkA, VOkC, AllSz, viewP, viewA, viewC, idsP, idsA, idsC, Mem.without, Mem.drop, remove, newMem, Nat.zero_mul, Nat.zero_le, Nat.lt_add_one, Nat.zero_lt_one, appendK, dstK, okA, srcK, List.drop_zero, List.nil_append, List.length_map, Mem.put, Cells, Cell, AllCell, AV.cells, List.append_nil, List.cons_append, convK, intConvK, strConvK, bytesStrK, binK, strBinK, boolBinK, unK, Int.toNat_natCast, List.headD_cons, beq_int, maxK, minK, pickK, extractK, lenK, loadK, storeK, fieldK, fieldVK, idxK, cutK, bnds, bnd, boxK, allocK, zeroAV, part, ibin, ipre, TK.known, TK.agg, Bool.not_true, Bool.not_false, Bool.false_eq_true, thaw, thawLA, thawA, thawC, thawL, blks, blksLA, blksA, blksC, blksL, Mem.adds, retK, resK, oneK, tkAlt, tkAlt2, r_noGotoN, r_noGotoR, r_noGotoE, r_blockF, d_nil, d_op, d_opg, d_free, z_move, z_assign, z_pick, z_unOp, z_extract, z_convert, z_slice, z_field, z_load, z_indexAddr, z_fieldAddr, z_nilCheck, z_binOp, z_call, z_lit, z_set, litK, d_read, d_back, freeOk, readOk, notOwn, NoNil, mem0, cvK, litC, constK, nilCheckK, AllV, List.length_append, str_size, str_append, str_extract, strOf_B, isB_B, str_toList, str_data, mapB_take, mapB_drop, take_drop', Int.toNat_zero, Nat.sub_zero, Int.cast_ofNat_Int, Int.reduceLE, Int.reduceLT, Int.reduceEq, Int.reduceNe, bne_int, beq_self_eq_true, eq_self, imp_self, implies_true, Int.le_refl, Nat.le_refl, List.set_cons_zero, List.set_cons_succ, List.mem_cons, List.not_mem_nil, or_false, forall_eq_or_imp, forall_eq, false_implies, buildK, fillA, AllKnown, splice, mkEl, or_self, or_true, true_or, elem_I, encI_eq, mapI_take, mapI_drop, List.take_zero, List.headD_cons, List.take_succ_cons, List.getD_cons_zero, List.getD_cons_succ, List.drop_succ_cons, r_pin, x_alloc, x_box, x_build, x_buildSlice, x_load, x_conv, x_makeSlice, x_slice, x_append, x_store, x_indexAddr, o_clear, clearK, x_callF, r1_skip, r1_ret, r1_exit, r1_region, r1_loop, r1_scope, r1_seq, r1_cond, r1_block, r1_range, r_callV, r_callB, idx2K_s, idx2K_l, idx2K_g, bldK, arrK, sapK, arK_eq, o_sap, x_sap, r_mkf1, r_mkf2, frz, mapB, frzE, frzC, FOkE, FOk, SOk, BOk, Tryz.results32]
     simp only [e, mapB_snoc, h1]
     exact ⟨by omega, exp_own rfl (by rw [← h1]; simp) (pureB _)⟩
end Go.Ab
namespace Go.Ab
open Go Go.Proofs
def High (p : List UInt8) : Prop := ∀ c ∈ p, 128 ≤ c.toNat
def valL : List UInt8 → Nat
 | [] => 0
 | c :: p => c.toNat % 128 + 128 * valL p
theorem valL_lt : ∀ p : List UInt8, valL p < 128 ^ p.length
 | [] => by decide
 | c :: p => by
  have := valL_lt p
  simp only [valL, List.length_cons, Nat.pow_succ]
  omega
theorem valL_snoc (c : UInt8) : ∀ p : List UInt8, valL (p ++ [c]) = valL p + c.toNat % 128 * 128 ^ p.length
 | [] => by simp [valL]
 | d :: p => by
  have := valL_snoc c p
  simp only [List.cons_append, valL, this, List.length_cons, Nat.pow_succ, Nat.mul_add, Nat.add_assoc, Nat.add_left_cancel_iff]
  rw [Nat.mul_comm (128 ^ p.length) 128, Nat.mul_left_comm]
theorem toNat_ofNat8 {n : Nat} (h : n < 256) : (UInt8.ofNat n).toNat = n := by rw [UInt8.toNat_ofNat', Nat.mod_eq_of_lt h]
theorem ofNat_toNat8 (c : UInt8) : UInt8.ofNat c.toNat = c := UInt8.ofNat_toNat
theorem putL_ne (n : Nat) : putL n ≠ [] := by rw [putL]; split <;> simp
theorem putL_pre : ∀ (p : List UInt8), High p → ∀ y, 0 < y → putL (valL p + 128 ^ p.length * y) = p ++ putL y
 | [], _, y, _ => by simp [valL]
 | c :: p, h, y, hy => by
  have hc := h c (by simp)
  have hc2 := u8_lt c
  have ih := putL_pre p (fun d hd => h d (by simp [hd])) y hy
  have hpos : 0 < 128 ^ p.length * y := Nat.mul_pos (Nat.pow_pos (by decide)) hy
  have e : valL (c :: p) + 128 ^ (c :: p).length * y = c.toNat % 128 + 128 * (valL p + 128 ^ p.length * y) := by
   simp only [valL, List.length_cons, Nat.pow_succ, Nat.mul_add, Nat.add_assoc, Nat.add_left_cancel_iff]
   rw [Nat.mul_comm (128 ^ p.length) 128, Nat.mul_assoc]
  rw [e]
  have hz0 : 0 < valL p + 128 ^ p.length * y := by omega
  generalize valL p + 128 ^ p.length * y = z at ih hz0
  have hz : ¬ c.toNat % 128 + 128 * z < 128 := by
   omega
  rw [putL_high hz]
  have e1 : (c.toNat % 128 + 128 * z) / 128 = z := by omega
  have e2 : (c.toNat % 128 + 128 * z) % 128 + 128 = c.toNat := by omega
  rw [e1, e2, ih, ofNat_toNat8]; rfl
theorem putL_conv : ∀ (p : List UInt8), High p → ∀ (v : Nat) (r s : List UInt8), putL v ++ r = p ++ s → ∃ y, v = valL p + 128 ^ p.length * y ∧ putL y ++ r = s ∧ (p ≠ [] → 0 < y)
 | [], _, v, r, s, h => ⟨v, by simp [valL], h, fun h => absurd rfl h⟩
 | c :: p, h, v, r, s, he => by
  have hc := h c (by simp)
  by_cases hv : v < 128
  · rw [putL_low hv] at he
    simp only [List.cons_append, List.cons.injEq] at he
    have := congrArg UInt8.toNat he.1
    rw [toNat_ofNat8 (by omega)] at this
    omega
  · rw [putL_high hv] at he
    simp only [List.cons_append, List.cons.injEq] at he
    obtain ⟨y, h1, h2, h3⟩ := putL_conv p (fun d hd => h d (by simp [hd])) (v / 128) r s he.2
    have hc2 := congrArg UInt8.toNat he.1
    rw [toNat_ofNat8 (by omega)] at hc2
    refine ⟨y, ?_, h2, fun _ => ?_⟩
    · have e : valL (c :: p) + 128 ^ (c :: p).length * y = c.toNat % 128 + 128 * (valL p + 128 ^ p.length * y) := by
       simp only [valL, List.length_cons, Nat.pow_succ, Nat.mul_add, Nat.add_assoc, Nat.add_left_cancel_iff]
       rw [Nat.mul_comm (128 ^ p.length) 128, Nat.mul_assoc]
      rw [e, ← h1]; omega
    · cases p with
      | nil => simp [valL] at h1; omega
      | cons d p => exact h3 (by simp)
theorem putL_head_low {v : Nat} {c : UInt8} {r s : List UInt8} (h : putL v ++ r = c :: s) (hc : c.toNat < 128) : v = c.toNat ∧ r = s := by
 by_cases hv : v < 128
 · rw [putL_low hv] at h
   simp only [List.cons_append, List.cons.injEq, List.nil_append] at h
   have := congrArg UInt8.toNat h.1
   rw [toNat_ofNat8 (by omega)] at this
   exact ⟨this, h.2⟩
 · rw [putL_high hv] at h
   simp only [List.cons_append, List.cons.injEq] at h
   have := congrArg UInt8.toNat h.1
   rw [toNat_ofNat8 (by omega)] at this
   omega
theorem putL_head_high {v : Nat} {c : UInt8} {r s : List UInt8} (h : putL v ++ r = c :: s) (hc : 128 ≤ c.toNat) : 128 ≤ v := by
 by_cases hv : v < 128
 · rw [putL_low hv] at h
   simp only [List.cons_append, List.cons.injEq, List.nil_append] at h
   have := congrArg UInt8.toNat h.1
   rw [toNat_ofNat8 (by omega)] at this
   omega
 · omega
def TakeIs (b : List UInt8) (v : Nat) (rest : List UInt8) (ok : Bool) : Prop :=
 (ok = true ∧ v < 18446744073709551616 ∧ b = putL v ++ rest) ∨ (ok = false ∧ v = 0 ∧ rest = [] ∧ ∀ v' r', v' < 18446744073709551616 → putL v' ++ r' ≠ b)
theorem putL_inj : ∀ (v w : Nat) (r s : List UInt8), putL v ++ r = putL w ++ s → v = w ∧ r = s := by
 intro v
 induction v using Nat.strongRecOn with
 | _ v ih =>
  intro w r s h
  by_cases hw : w < 128
  · rw [putL_low hw] at h
    obtain ⟨h1, h2⟩ := putL_head_low (c := UInt8.ofNat w) (s := s) h (by rw [toNat_ofNat8 (by omega)]; exact hw)
    rw [toNat_ofNat8 (by omega)] at h1
    exact ⟨h1, h2⟩
  · rw [putL_high hw] at h
    have hv := putL_head_high (c := UInt8.ofNat (w % 128 + 128)) (s := putL (w / 128) ++ s) h (by rw [toNat_ofNat8 (by omega)]; omega)
    rw [putL_high (by omega)] at h
    simp only [List.cons_append, List.cons.injEq] at h
    obtain ⟨h1, h2⟩ := ih (v / 128) (by omega) _ _ _ h.2
    have := congrArg UInt8.toNat h.1
    rw [toNat_ofNat8 (by omega), toNat_ofNat8 (by omega)] at this
    exact ⟨by omega, h2⟩
theorem TakeIs.uniq {b : List UInt8} {v w : Nat} {r s : List UInt8} {o p : Bool} (h : TakeIs b v r o) (k : TakeIs b w s p) : v = w ∧ r = s ∧ o = p := by
 rcases h with ⟨rfl, h1, h2⟩ | ⟨rfl, rfl, rfl, h3⟩ <;> rcases k with ⟨rfl, k1, k2⟩ | ⟨rfl, rfl, rfl, k3⟩
 · obtain ⟨e1, e2⟩ := putL_inj v w r s (h2.symm.trans k2); exact ⟨e1, e2, rfl⟩
 · exact absurd h2.symm (k3 _ _ h1)
 · exact absurd k2.symm (h3 _ _ k1)
 · exact ⟨rfl, rfl, rfl⟩
theorem takeIs_ex (b : List UInt8) : ∃ v r o, TakeIs b v r o := by
 by_cases h : ∃ v r, v < 18446744073709551616 ∧ putL v ++ r = b
 · obtain ⟨v, r, h1, h2⟩ := h; exact ⟨v, r, true, .inl ⟨rfl, h1, h2.symm⟩⟩
 · exact ⟨0, [], false, .inr ⟨rfl, rfl, rfl, fun v r h1 h2 => h ⟨v, r, h1, h2⟩⟩⟩
end Go.Ab
namespace Go.Ab
open Go Go.Proofs
theorem take_end {p s : List UInt8} (h : High p) (hn : s = []) : TakeIs (p ++ s) 0 [] false := by
 refine .inr ⟨rfl, rfl, rfl, fun v' r' _ he => ?_⟩
 obtain ⟨y, h1, h2, h3⟩ := putL_conv p h v' r' s he
 rw [hn] at h2
 exact putL_ne y (List.append_eq_nil_iff.1 h2).1
theorem take_no {p s : List UInt8} {c : UInt8} (h : High p) (hp : p.length ≤ 9) (hb : (p.length = 9 ∧ 1 < c.toNat) ∨ (0 < p.length ∧ c.toNat = 0)) : TakeIs (p ++ c :: s) 0 [] false := by
 refine .inr ⟨rfl, rfl, rfl, fun v' r' hv he => ?_⟩
 obtain ⟨y, h1, h2, h3⟩ := putL_conv p h v' r' _ he
 rcases hb with ⟨h4, h5⟩ | ⟨h4, h5⟩
 · rw [h4] at h1
   have hy : y < 2 := by
    have : (128 : Nat) ^ 9 = 9223372036854775808 := by decide
    rw [this] at h1; omega
   rw [putL_low (by omega)] at h2
   simp only [List.cons_append, List.cons.injEq] at h2
   have := congrArg UInt8.toNat h2.1
   rw [toNat_ofNat8 (by omega)] at this
   omega
 · have := (putL_head_low h2 (by omega)).1
   have := h3 (by intro e; rw [e] at h4; simp at h4)
   omega
theorem take_yes {p s : List UInt8} {c : UInt8} (h : High p) (hp : p.length ≤ 9) (hc : c.toNat < 128) (h9 : p.length = 9 → c.toNat ≤ 1) (h0 : 0 < p.length → 0 < c.toNat) : TakeIs (p ++ c :: s) (valL (p ++ [c])) s true := by
 have hv := valL_lt p
 have hval : valL (p ++ [c]) = valL p + 128 ^ p.length * c.toNat := by rw [valL_snoc, Nat.mod_eq_of_lt hc, Nat.mul_comm]
 refine .inl ⟨rfl, ?_, ?_⟩
 · rw [hval]
   have : p.length = 0 ∨ p.length = 1 ∨ p.length = 2 ∨ p.length = 3 ∨ p.length = 4 ∨ p.length = 5 ∨ p.length = 6 ∨ p.length = 7 ∨ p.length = 8 ∨ p.length = 9 := by omega
   rcases this with e | e | e | e | e | e | e | e | e | e <;> rw [e] at hv ⊢ <;> simp at hv ⊢ <;> (try have := h9 e) <;> omega
 · rw [hval]
   cases p with
   | nil => simp [valL, putL_low hc]
   | cons d p =>
    rw [putL_pre _ h _ (h0 (by simp)), putL_low hc, ofNat_toNat8, List.append_assoc]; rfl
theorem pow128 (k : Nat) : (128 : Nat) ^ k = 2 ^ (7 * k) := by rw [Nat.pow_mul]
theorem take_or {p : List UInt8} {c : UInt8} (hp : p.length ≤ 9) (h9 : p.length = 9 → c.toNat % 128 ≤ 1) :
 IntKind.u64.wrap ((BitVec.ofInt IntKind.u64.bits ((valL p : Nat) : Int) ||| BitVec.ofInt IntKind.u64.bits (IntKind.u64.wrap (((c.toNat % 128 : Nat) : Int) * 2 ^ min (7 * p.length) IntKind.u64.bits))).toNat : Nat) = ((valL (p ++ [c]) : Nat) : Int) := by
 have hv := valL_lt p
 have hm : min (7 * p.length) IntKind.u64.bits = 7 * p.length := Nat.min_eq_left (by simp only [IntKind.bits]; omega)
 have hb : c.toNat % 128 * 2 ^ (7 * p.length) < 18446744073709551616 ∧ 2 ^ (7 * p.length) ≤ 18446744073709551616 := by
  have : p.length = 0 ∨ p.length = 1 ∨ p.length = 2 ∨ p.length = 3 ∨ p.length = 4 ∨ p.length = 5 ∨ p.length = 6 ∨ p.length = 7 ∨ p.length = 8 ∨ p.length = 9 := by omega
  rcases this with e | e | e | e | e | e | e | e | e | e <;> rw [e] <;> (try have := h9 e) <;> simp <;> omega
 have hw : IntKind.u64.wrap (((c.toNat % 128 : Nat) : Int) * 2 ^ (7 * p.length)) = ((c.toNat % 128 * 2 ^ (7 * p.length) : Nat) : Int) := by
  have : (((c.toNat % 128 : Nat) : Int) * 2 ^ (7 * p.length)) = ((c.toNat % 128 * 2 ^ (7 * p.length) : Nat) : Int) := by push_cast; rfl
  rw [this, wrap_u64 hb.1]
 rw [hm, hw, or_u64 (by rw [pow128] at hv; omega) hb.1, or_add (by rw [← pow128]; exact hv), valL_snoc, pow128]
theorem take_rest {p s b : List UInt8} {c : UInt8} (h : p ++ c :: s = b) : List.drop (p.length + 1) b = s := by
 subst h
 have e : p ++ c :: s = (p ++ [c]) ++ s := by simp
 rw [e]
 have hl : p.length + 1 = (p ++ [c]).length := by simp
 rw [hl, List.drop_left]
def take_I (b : List UInt8) (p : List UInt8 × List UInt8) : ASt :=
 ⟨[(0, Bs b), (2, .c (.int .u64 (valL p.1 : Nat))), (3, .c (.slice none 0 0)), (4, .c (.bool false)), (5, .c (.int .i64 0)), (8, Bs b), (9, .c (.int .i64 b.length)), (10, .c (.int .i64 p.1.length))], ⟨[], 0⟩, 51⟩
set_option maxHeartbeats 4000000 in
theorem ntake_call (b : List UInt8) (hl : b.length ≤ 1000000000) {v : Nat} {r : List UInt8} {o : Bool} (ht : TakeIs b v r o) : PCall Tryz.prog 98 [Bs b] (.t [.c (.int .u64 v), Bs r, .c (.bool o)]) := by
 refine pcall_body tabOk Tryz.func98 rfl rfl (by rw [Tryz.ntmps98]; simp) ?_
 simp only [Tryz.ntmps98, Bs]
 simp only [↓wt, wz, reduceAdd, reduceMul, reduceEqDiff, reduceLeDiff, Nat.reduceLT, reduceLE, reduceLT, reduceEq, reduceNe]
 refine scope_rule tabOk ?_
 simp only [↓wt, wz, reduceAdd, reduceMul, reduceEqDiff, reduceLeDiff, Nat.reduceLT, reduceLE, reduceLT, reduceEq, reduceNe]
 refine loop_rule tabOk (take_I b) (fun p => p.1 ++ p.2 = b ∧ High p.1 ∧ p.1.length ≤ 9) (fun p => p.2.length) ([], b) ⟨rfl, fun c hc => by simp at hc, by simp⟩ ?_ (fun _ => rfl) ?_
 · simp only [↓wt, wz, wkf, reduceAdd, reduceMul, reduceEqDiff, reduceLeDiff, Nat.reduceLT, reduceLE, reduceLT, reduceEq, reduceNe, take_I, Bs, valL]
 · rintro ⟨p, s⟩ ⟨h1, h2, h3⟩
   simp only [take_I, Bs] at h1 h2 h3 ⊢
   simp only [↓wt, wz, reduceAdd, reduceMul, reduceEqDiff, reduceLeDiff, Nat.reduceLT, reduceLE, reduceLT, reduceEq, reduceNe]
   refine r_casesP (fun hc => ?_) (fun hc => ?_)
   · simp only [↓wt, wz, reduceAdd, reduceMul, reduceEqDiff, reduceLeDiff, Nat.reduceLT, reduceLE, reduceLT, reduceEq, reduceNe]
     refine ⟨by omega, by omega, ?_⟩
     have hs : p.length < b.length := by omega
     obtain ⟨c, s', rfl⟩ : ∃ c s', s = c :: s' := by
      cases s with
      | nil => exfalso; rw [← h1] at hs; simp at hs
      | cons c s' => exact ⟨c, s', rfl⟩
     have hg : b.getD p.length 0 = c := by rw [← h1]; simp
     have hcl := u8_lt c
     have hcl := u8_lt c
     have e1 : IntKind.u64.wrap (IntKind.u8.wrap ((BitVec.ofInt IntKind.u8.bits (c.toNat : Int) &&& BitVec.ofInt IntKind.u8.bits 127).toNat : Nat)) = ((c.toNat % 128 : Nat) : Int) := by
      rw [and127 hcl, wrap_u64 (by omega)]
     have e2 : IntKind.i64.wrap ((p.length : Int) + 1) = ((p.length + 1 : Nat) : Int) := by rw [wrap_i64 (by omega) (by omega)]; omega
     have e3 : IntKind.i64.wrap (7 * (p.length : Int)) = ((7 * p.length : Nat) : Int) := by rw [wrap_i64 (by omega) (by omega)]; omega
     simp only [↓wt, wz, reduceAdd, reduceMul, reduceEqDiff, reduceLeDiff, Nat.reduceLT, reduceLE, reduceLT, reduceEq, reduceNe, hg]
     refine ⟨hs, ?_⟩
     rcases (by omega : (p.length = 9 ∧ 1 < c.toNat) ∨ (p.length = 9 ∧ c.toNat = 0) ∨ (p.length = 9 ∧ c.toNat = 1) ∨ (p.length ≠ 9 ∧ 0 < p.length ∧ c.toNat = 0) ∨ (p.length ≠ 9 ∧ 0 < p.length ∧ 0 < c.toNat ∧ c.toNat < 128) ∨
      (p.length ≠ 9 ∧ 0 < p.length ∧ 128 ≤ c.toNat) ∨ (p.length = 0 ∧ c.toNat < 128) ∨ (p.length = 0 ∧ 128 ≤ c.toNat)) with hh | hh | hh | hh | hh | hh | hh | hh
     · have k9 : decide ((p.length : Int) = 9) = true := decide_eq_true (by omega)
       have c1 : decide ((c.toNat : Int) > 1) = true := decide_eq_true (by omega)
       simp only [↓wt, wz, reduceAdd, reduceMul, reduceEqDiff, reduceLeDiff, Nat.reduceLT, reduceLE, reduceLT, reduceEq, reduceNe, Tryz.results98, k9, c1, e1]
       obtain ⟨rfl, rfl, rfl⟩ := ht.uniq (h1 ▸ take_no h2 h3 (by omega))
       exact exp_t ⟨⟨weak_c, .c _⟩, ⟨weak_nil, under_B (l := [])⟩, ⟨weak_c, .c _⟩, trivial⟩
     · have e4 := take_or (c := c) h3 (by omega)
       have k9 : decide ((p.length : Int) = 9) = true := decide_eq_true (by omega)
       have c1 : decide ((c.toNat : Int) > 1) = false := decide_eq_false (by omega)
       have k0 : decide ((p.length : Int) > 0) = true := decide_eq_true (by omega)
       have c0 : decide ((c.toNat : Int) = 0) = true := decide_eq_true (by omega)
       simp only [↓wt, wz, reduceAdd, reduceMul, reduceEqDiff, reduceLeDiff, Nat.reduceLT, reduceLE, reduceLT, reduceEq, reduceNe, Tryz.results98, k9, c1, k0, c0, e1]
       obtain ⟨rfl, rfl, rfl⟩ := ht.uniq (h1 ▸ take_no h2 h3 (by omega))
       exact exp_t ⟨⟨weak_c, .c _⟩, ⟨weak_nil, under_B (l := [])⟩, ⟨weak_c, .c _⟩, trivial⟩
     · have e4 := take_or (c := c) h3 (by omega)
       have k9 : decide ((p.length : Int) = 9) = true := decide_eq_true (by omega)
       have c1 : decide ((c.toNat : Int) > 1) = false := decide_eq_false (by omega)
       have k0 : decide ((p.length : Int) > 0) = true := decide_eq_true (by omega)
       have c0 : decide ((c.toNat : Int) = 0) = false := decide_eq_false (by omega)
       have c8 : decide ((c.toNat : Int) < 128) = true := decide_eq_true (by omega)
       have n0 : decide (((p.length + 1 : Nat) : Int) = 0) = false := decide_eq_false (by omega)
       simp only [↓wt, wz, reduceAdd, reduceMul, reduceEqDiff, reduceLeDiff, Nat.reduceLT, reduceLE, reduceLT, reduceEq, reduceNe, Tryz.results98, k9, c1, k0, c0, c8, n0, e1, e2, e3, e4]
       refine ⟨by omega, draw_rule tabOk mixed [0, 0, 0, 0, 0, 0, 0, 0, 0, 0, 0] [[], [], [], [], [3], [], [5], [1, 2, 3, 4, 5, 6], [0], [0, 1, 2, 3, 4, 5, 6, 7, 8], [0, 1, 2, 3, 4, 5, 6, 7, 8, 9]] (by kernel_rfl) ?_⟩
       simp only [↓wt, wz, reduceAdd, reduceMul, reduceEqDiff, reduceLeDiff, Nat.reduceLT, reduceLE, reduceLT, reduceEq, reduceNe, Tryz.results98]
       refine ⟨by omega, by omega, ?_⟩
       obtain ⟨rfl, rfl, rfl⟩ := ht.uniq (h1 ▸ take_yes h2 h3 (by omega) (by omega) (by omega))
       rw [take_rest h1]
       exact exp_t ⟨⟨weak_c, .c _⟩, ⟨weak_l, under_B⟩, ⟨weak_c, .c _⟩, trivial⟩
     · have e4 := take_or (c := c) h3 (by omega)
       have k9 : decide ((p.length : Int) = 9) = false := decide_eq_false (by omega)
       have k0 : decide ((p.length : Int) > 0) = true := decide_eq_true (by omega)
       have c0 : decide ((c.toNat : Int) = 0) = true := decide_eq_true (by omega)
       simp only [↓wt, wz, reduceAdd, reduceMul, reduceEqDiff, reduceLeDiff, Nat.reduceLT, reduceLE, reduceLT, reduceEq, reduceNe, Tryz.results98, k9, k0, c0, e1]
       obtain ⟨rfl, rfl, rfl⟩ := ht.uniq (h1 ▸ take_no h2 h3 (by omega))
       exact exp_t ⟨⟨weak_c, .c _⟩, ⟨weak_nil, under_B (l := [])⟩, ⟨weak_c, .c _⟩, trivial⟩
     · have e4 := take_or (c := c) h3 (by omega)
       have k9 : decide ((p.length : Int) = 9) = false := decide_eq_false (by omega)
       have k0 : decide ((p.length : Int) > 0) = true := decide_eq_true (by omega)
       have c0 : decide ((c.toNat : Int) = 0) = false := decide_eq_false (by omega)
       have c8 : decide ((c.toNat : Int) < 128) = true := decide_eq_true (by omega)
       have n0 : decide (((p.length + 1 : Nat) : Int) = 0) = false := decide_eq_false (by omega)
       simp only [↓wt, wz, reduceAdd, reduceMul, reduceEqDiff, reduceLeDiff, Nat.reduceLT, reduceLE, reduceLT, reduceEq, reduceNe, Tryz.results98, k9, k0, c0, c8, n0, e1, e2, e3, e4]
       refine ⟨by omega, draw_rule tabOk mixed [0, 0, 0, 0, 0, 0, 0, 0, 0, 0, 0] [[], [], [], [], [3], [], [5], [1, 2, 3, 4, 5, 6], [0], [0, 1, 2, 3, 4, 5, 6, 7, 8], [0, 1, 2, 3, 4, 5, 6, 7, 8, 9]] (by kernel_rfl) ?_⟩
       simp only [↓wt, wz, reduceAdd, reduceMul, reduceEqDiff, reduceLeDiff, Nat.reduceLT, reduceLE, reduceLT, reduceEq, reduceNe, Tryz.results98]
       refine ⟨by omega, by omega, ?_⟩
       obtain ⟨rfl, rfl, rfl⟩ := ht.uniq (h1 ▸ take_yes h2 h3 (by omega) (by omega) (by omega))
       rw [take_rest h1]
       exact exp_t ⟨⟨weak_c, .c _⟩, ⟨weak_l, under_B⟩, ⟨weak_c, .c _⟩, trivial⟩
     · have e4 := take_or (c := c) h3 (by omega)
       have k9 : decide ((p.length : Int) = 9) = false := decide_eq_false (by omega)
       have k0 : decide ((p.length : Int) > 0) = true := decide_eq_true (by omega)
       have c0 : decide ((c.toNat : Int) = 0) = false := decide_eq_false (by omega)
       have c8 : decide ((c.toNat : Int) < 128) = false := decide_eq_false (by omega)
       simp only [↓wt, wz, reduceAdd, reduceMul, reduceEqDiff, reduceLeDiff, Nat.reduceLT, reduceLE, reduceLT, reduceEq, reduceNe, k9, k0, c0, c8, e1, e2, e3, e4]
       refine ⟨by omega, (p ++ [c], s'), ⟨by rw [← h1]; simp, fun d hd => ?_, by simp; omega⟩, by simp, ?_⟩
       · rcases List.mem_append.1 hd with hd | hd
         · exact h2 d hd
         · rw [List.mem_singleton.1 hd]; omega
       · simp only [↓wt, wz, wkf, reduceAdd, reduceMul, reduceEqDiff, reduceLeDiff, Nat.reduceLT, reduceLE, reduceLT, reduceEq, reduceNe, take_I, Bs, e4, e3, e2]
     · have e4 := take_or (c := c) h3 (by omega)
       have k9 : decide ((p.length : Int) = 9) = false := decide_eq_false (by omega)
       have k0 : decide ((p.length : Int) > 0) = false := decide_eq_false (by omega)
       have c8 : decide ((c.toNat : Int) < 128) = true := decide_eq_true (by omega)
       have n0 : decide (((p.length + 1 : Nat) : Int) = 0) = false := decide_eq_false (by omega)
       simp only [↓wt, wz, reduceAdd, reduceMul, reduceEqDiff, reduceLeDiff, Nat.reduceLT, reduceLE, reduceLT, reduceEq, reduceNe, Tryz.results98, k9, k0, c8, n0, e1, e2, e3, e4]
       refine ⟨by omega, draw_rule tabOk mixed [0, 0, 0, 0, 0, 0, 0, 0, 0, 0, 0] [[], [], [], [], [3], [], [5], [1, 2, 3, 4, 5, 6], [0], [0, 1, 2, 3, 4, 5, 6, 7, 8], [0, 1, 2, 3, 4, 5, 6, 7, 8, 9]] (by kernel_rfl) ?_⟩
       simp only [↓wt, wz, reduceAdd, reduceMul, reduceEqDiff, reduceLeDiff, Nat.reduceLT, reduceLE, reduceLT, reduceEq, reduceNe, Tryz.results98]
       refine ⟨by omega, by omega, ?_⟩
       obtain ⟨rfl, rfl, rfl⟩ := ht.uniq (h1 ▸ take_yes h2 h3 (by omega) (by omega) (by omega))
       rw [take_rest h1]
       exact exp_t ⟨⟨weak_c, .c _⟩, ⟨weak_l, under_B⟩, ⟨weak_c, .c _⟩, trivial⟩
     · have e4 := take_or (c := c) h3 (by omega)
       have k9 : decide ((p.length : Int) = 9) = false := decide_eq_false (by omega)
       have k0 : decide ((p.length : Int) > 0) = false := decide_eq_false (by omega)
       have c8 : decide ((c.toNat : Int) < 128) = false := decide_eq_false (by omega)
       simp only [↓wt, wz, reduceAdd, reduceMul, reduceEqDiff, reduceLeDiff, Nat.reduceLT, reduceLE, reduceLT, reduceEq, reduceNe, k9, k0, c8, e1, e2, e3, e4]
       refine ⟨by omega, (p ++ [c], s'), ⟨by rw [← h1]; simp, fun d hd => ?_, by simp; omega⟩, by simp, ?_⟩
       · rcases List.mem_append.1 hd with hd | hd
         · exact h2 d hd
         · rw [List.mem_singleton.1 hd]; omega
       · simp only [↓wt, wz, wkf, reduceAdd, reduceMul, reduceEqDiff, reduceLeDiff, Nat.reduceLT, reduceLE, reduceLT, reduceEq, reduceNe, take_I, Bs, e4, e3, e2]
   · simp only [↓wt, wz, reduceAdd, reduceMul, reduceEqDiff, reduceLeDiff, Nat.reduceLT, reduceLE, reduceLT, reduceEq, reduceNe]
     have hs : s = [] := by
      have := congrArg List.length h1
      simp only [List.length_append] at this
      exact List.eq_nil_of_length_eq_zero (by omega)
     obtain ⟨rfl, rfl, rfl⟩ := ht.uniq (h1 ▸ take_end h2 hs)
     simp only [↓wt, wz, reduceAdd, reduceMul, reduceEqDiff, reduceLeDiff, Nat.reduceLT, reduceLE, reduceLT, reduceEq, reduceNe, Tryz.results98]
     exact exp_t ⟨⟨weak_c, .c _⟩, ⟨weak_nil, under_B (l := [])⟩, ⟨weak_c, .c _⟩, trivial⟩
end Go.Ab
namespace Go.Ab
open Go Go.Proofs
def rput_I (x : List UInt8 × Nat) : ASt := ⟨[(1, .c (.int .u64 x.2)), (4, .c (.slice none 0 0)), (5, .s 0 0 x.1.length)], ⟨[(0, ⟨5, 1, x.1.map encB⟩)], 1⟩, 26⟩
theorem rput_byte {v : Nat} : AV.c (.int .u8 (IntKind.u8.wrap (IntKind.u8.wrap ((v % 128 : Nat) : Int) + 128))) = encB (UInt8.ofNat (v % 128 + 128)) := by
 rw [encB_ofNat (by omega), wrap_u8, wrap_u8]; congr 2; omega
theorem nrput_call (l : List UInt8) (n : Nat) (hl : l.length ≤ 1000000000) (hn : n < 18446744073709551616) : PCall Tryz.prog 57 [Bs l, .c (.int .u64 n)] (.o 5 1 ((l ++ putL n).map encB)) := by
 refine pcall_body tabOk Tryz.func57 rfl rfl (by rw [Tryz.ntmps57]; simp) ?_
 simp only [Tryz.ntmps57, Bs]
 simp only [↓wt, wz, reduceAdd, reduceMul, reduceEqDiff, reduceLeDiff, Nat.reduceLT, reduceLE, reduceLT, reduceEq, reduceNe]
 have hlen := putL_len10 hn
 refine ⟨by omega, loop_rule tabOk rput_I (fun x => x.1 ++ putL x.2 = l ++ putL n ∧ x.2 < 18446744073709551616) (fun x => x.2) (l, n) ⟨rfl, hn⟩ ?_ (fun _ => rfl) ?_⟩
 · simp only [↓wt, wz, wkf, reduceAdd, reduceMul, reduceEqDiff, reduceLeDiff, Nat.reduceLT, reduceLE, reduceLT, reduceEq, reduceNe, rput_I]
 · rintro ⟨d, v⟩ ⟨h1, h2⟩
   have hd : d.length ≤ l.length + 10 := by
    have := congrArg List.length h1
    simp only [List.length_append] at this
    omega
   simp only at h1 h2
   have e1 : ((v : Int).tmod 128) = ((v % 128 : Nat) : Int) := tmod_nat (b := 128)
   have e2 : IntKind.u64.wrap ((v : Int).tdiv 128) = ((v / 128 : Nat) : Int) := by
    have : (v : Int).tdiv 128 = ((v / 128 : Nat) : Int) := by rw [show (128 : Int) = ((128 : Nat) : Int) from rfl, ← Int.ofNat_tdiv]
    rw [this, wrap_u64 (by omega)]
   simp only [rput_I]
   simp only [↓wt, wz, reduceAdd, reduceMul, reduceEqDiff, reduceLeDiff, Nat.reduceLT, reduceLE, reduceLT, reduceEq, reduceNe, e1, e2]
   refine r_casesP (fun hc => ?_) (fun hc => ?_)
   · have hv : v < 128 := by omega
     simp only [↓tk2, ↓tk3, ↓tk4, ↓tk5, ↓tk9, ↓tk12, ↓tk21, ↓tk22, ↓tk23, ↓tk24, ↓tk26, ↓tk27, ↓tk28, ↓tk29, ↓tk30, ↓tk31, ↓tk32, ↓tk33, ↓tk34, ↓tk35, ↓tk36, ↓tk37, ↓tk47, ↓tk49, ↓tk52, ↓tk53, ↓tk55, ↓tk56, ↓tk57, ↓tk65, ↓tk66, ↓tk67, ↓tk68, ↓tk69, ↓tk70, ↓tk71, ↓tk72, ↓tk80, ↓tk111, ↓tk112, ↓tk114, ↓tk126, ↓tk127, ↓tk136, ↓tk142, ↓tk151, ↓tk153, ↓tk155, ↓tk156, ↓tk158, ↓tk162, ↓tx2, ↓tx3, ↓tx4, ↓tx5, ↓tx9, ↓tx12, ↓tx21, ↓tx22, ↓tx23, ↓tx24, ↓tx26, ↓tx27, ↓tx28, ↓tx29, ↓tx30, ↓tx31, ↓tx32, ↓tx33, ↓tx34, ↓tx35, ↓tx36, ↓tx37, ↓tx47, ↓tx49, ↓tx52, ↓tx53, ↓tx55, ↓tx56, ↓tx57, ↓tx65, ↓tx66, ↓tx67, ↓tx68, ↓tx69, ↓tx70, ↓tx71, ↓tx72, ↓tx80, ↓tx111, ↓tx112, ↓tx114, ↓tx126, ↓tx127, ↓tx136, ↓tx142, ↓tx151, ↓tx153, ↓tx155, ↓tx156, ↓tx158, ↓tx162, isU8_5, ty2, ty3, ty4, ty5, ty9, ty12, ty21, ty22, ty23, ty24, ty26, ty27, ty28, ty29, ty30, ty31, ty32, ty33, ty34, ty35, ty36, ty37, ty47, ty49, ty52, ty53, ty55, ty56, ty57, ty65, ty66, ty67, ty68, ty69, ty70, ty71, ty72, ty80, ty111, ty112, ty114, ty126, ty127, ty136, ty142, ty151, ty153, ty155, ty156, ty158, ty162, mkSlots, Nat.zero_add, Nat.reduceAdd, r_skip, r_label, r_ret, r_exit, r_region, r_draw, r_seq, r_cond, r_block, r_loop, r_then, r_thenR, r_thenE, r_blockN, r_blockR, r_blockE, r_condT, r_condF, r_nil, r_op, r_opg, r_gS, r_gU, r_gTT, r_gFF, r_gTF, r_gFT, r_set, r_set0, r_setX, r_skS, r_atM, o_move, o_assign, o_pick, o_alloc, o_box, o_build, o_buildSlice, o_load, o_nilCheck, o_bin, o_un, o_conv, o_makeFunc, o_makeSlice, o_slice, o_fieldAddr, o_field, o_indexAddr, o_extract, o_callF, o_callV, o_len, o_append, o_max, o_min, o_store, slK_eq, stK_eq, blkK_sel, selK_eq, elem_0, elem_s, elem_B, ev_tmp, ev_const, ev_func, ev_global, cv_int, cv_bool, cv_string, cv_slice, cv_ptr, Slots.get, Mem.get, assoc, insert, nbeq, nble, cond_true, cond_false, Option.getD_some, Option.getD_none, Option.map_some, Option.map_none, Option.isNone_none, Option.isNone_some, Option.isSome_none, Option.isSome_some, Nat.reduceEqDiff, Nat.reduceLeDiff, Nat.reduceLT, decide_true, decide_false, true_and, and_true, if_true, if_false, List.map_nil, List.map_cons, List.length_nil, List.length_cons, List.range'_zero, List.range'_succ, List.getElem?_toArray, List.getElem?_cons_zero, List.getElem?_cons_succ, Option.bind_some, Nat.reduceMul, sliceK, AllVP, VOkA, VOkC, AllSz, viewP, viewA, viewC, idsP, idsA, idsC, Mem.without, Mem.drop, remove, newMem, Nat.zero_mul, Nat.zero_le, Nat.lt_add_one, Nat.zero_lt_one, appendK, dstK, okA, srcK, List.drop_zero, List.nil_append, List.length_map, Mem.put, Cells, Cell, AllCell, AV.cells, List.append_nil, List.cons_append, convK, intConvK, strConvK, bytesStrK, binK, strBinK, boolBinK, unK, Int.toNat_natCast, List.headD_cons, beq_int, maxK, minK, pickK, extractK, lenK, loadK, storeK, fieldK, fieldVK, idxK, cutK, bnds, bnd, boxK, allocK, zeroAV, part, ibin, ipre, TK.known, TK.agg, Bool.not_true, Bool.not_false, Bool.false_eq_true, thaw, thawLA, thawA, thawC, thawL, blks, blksLA, blksA, blksC, blksL, Mem.adds, retK, resK, oneK, tkAlt, tkAlt2, r_noGotoN, r_noGotoR, r_noGotoE, r_blockF, d_nil, d_op, d_opg, d_free, z_move, z_assign, z_pick, z_unOp, z_extract, z_convert, z_slice, z_field, z_load, z_indexAddr, z_fieldAddr, z_nilCheck, z_binOp, z_call, z_lit, z_set, litK, d_read, d_back, freeOk, readOk, notOwn, NoNil, mem0, cvK, litC, constK, nilCheckK, AllV, List.length_append, str_size, str_append, str_extract, strOf_B, isB_B, str_toList, str_data, mapB_take, mapB_drop, take_drop', Int.toNat_zero, Nat.sub_zero, Int.cast_ofNat_Int, Int.reduceLE, Int.reduceLT, Int.reduceEq, Int.reduceNe, bne_int, beq_self_eq_true, eq_self, imp_self, implies_true, Int.le_refl, Nat.le_refl, List.set_cons_zero, List.set_cons_succ, List.mem_cons, List.not_mem_nil, or_false, forall_eq_or_imp, forall_eq, false_implies, buildK, fillA, AllKnown, splice, mkEl, or_self, or_true, true_or, elem_I, encI_eq, mapI_take, mapI_drop, List.take_zero, List.headD_cons, List.take_succ_cons, List.getD_cons_zero, List.getD_cons_succ, List.drop_succ_cons, r_pin, x_alloc, x_box, x_build, x_buildSlice, x_load, x_conv, x_makeSlice, x_slice, x_append, x_store, x_indexAddr, o_clear, clearK, x_callF, r1_skip, r1_ret, r1_exit, r1_region, r1_loop, r1_scope, r1_seq, r1_cond, r1_block, r1_range, r_callV, r_callB, idx2K_s, idx2K_l, idx2K_g, bldK, arrK, sapK, arK_eq, o_sap, x_sap, r_mkf1, r_mkf2, frz, mapB, frzE, frzC, FOkE, FOk, SOk, BOk, e1, e2, Tryz.results57]
     rw [putL_low hv] at h1
     have e3 : v % 128 = v := Nat.mod_eq_of_lt hv
     have e : AV.c (.int .u8 (IntKind.u8.wrap (v : Int))) = encB (UInt8.ofNat v) := by
      rw [encB_ofNat (by omega), wrap_u8]; congr 2; omega
     simp only [e3, e, mapB_snoc, h1]
     exact ⟨by omega, exp_own rfl (by rw [← h1]; simp) (pureB _)⟩
   · have hv : 128 ≤ v := by omega
     simp only [↓tk2, ↓tk3, ↓tk4, ↓tk5, ↓tk9, ↓tk12, ↓tk21, ↓tk22, ↓tk23, ↓tk24, ↓tk26, ↓tk27, ↓tk28, ↓tk29, ↓tk30, ↓tk31, ↓tk32, ↓tk33, ↓tk34, ↓tk35, ↓tk36, ↓tk37, ↓tk47, ↓tk49, ↓tk52, ↓tk53, ↓tk55, ↓tk56, ↓tk57, ↓tk65, ↓tk66, ↓tk67, ↓tk68, ↓tk69, ↓tk70, ↓tk71, ↓tk72, ↓tk80, ↓tk111, ↓tk112, ↓tk114, ↓tk126, ↓tk127, ↓tk136, ↓tk142, ↓tk151, ↓tk153, ↓tk155, ↓tk156, ↓tk158, ↓tk162, ↓tx2, ↓tx3, ↓tx4, ↓tx5, ↓tx9, ↓tx12, ↓tx21, ↓tx22, ↓tx23, ↓tx24, ↓tx26, ↓tx27, ↓tx28, ↓tx29, ↓tx30, ↓tx31, ↓tx32, ↓tx33, ↓tx34, ↓tx35, ↓tx36, ↓tx37, ↓tx47, ↓tx49, ↓tx52, ↓tx53, ↓tx55, ↓tx56, ↓tx57, ↓tx65, ↓tx66, ↓tx67, ↓tx68, ↓tx69, ↓tx70, ↓tx71, ↓tx72, ↓tx80, ↓tx111, ↓tx112, ↓tx114, ↓tx126, ↓tx127, ↓tx136, ↓tx142, ↓tx151, ↓tx153, ↓tx155, ↓tx156, ↓tx158, ↓tx162, isU8_5, ty2, ty3, ty4, ty5, ty9, ty12, ty21, ty22, ty23, ty24, ty26, ty27, ty28, ty29, ty30, ty31, ty32, ty33, ty34, ty35, ty36, ty37, ty47, ty49, ty52, ty53, ty55, ty56, ty57, ty65, ty66, ty67, ty68, ty69, ty70, ty71, ty72, ty80, ty111, ty112, ty114, ty126, ty127, ty136, ty142, ty151, ty153, ty155, ty156, ty158, ty162, mkSlots, Nat.zero_add, Nat.reduceAdd, r_skip, r_label, r_ret, r_exit, r_region, r_draw, r_seq, r_cond, r_block, r_loop, r_then, r_thenR, r_thenE, r_blockN, r_blockR, r_blockE, r_condT, r_condF, r_nil, r_op, r_opg, r_gS, r_gU, r_gTT, r_gFF, r_gTF, r_gFT, r_set, r_set0, r_setX, r_skS, r_atM, o_move, o_assign, o_pick, o_alloc, o_box, o_build, o_buildSlice, o_load, o_nilCheck, o_bin, o_un, o_conv, o_makeFunc, o_makeSlice, o_slice, o_fieldAddr, o_field, o_indexAddr, o_extract, o_callF, o_callV, o_len, o_append, o_max, o_min, o_store, slK_eq, stK_eq, blkK_sel, selK_eq, elem_0, elem_s, elem_B, ev_tmp, ev_const, ev_func, ev_global, cv_int, cv_bool, cv_string, cv_slice, cv_ptr, Slots.get, Mem.get, assoc, insert, nbeq, nble, cond_true, cond_false, Option.getD_some, Option.getD_none, Option.map_some, Option.map_none, Option.isNone_none, Option.isNone_some, Option.isSome_none, Option.isSome_some, Nat.reduceEqDiff, Nat.reduceLeDiff, Nat.reduceLT, decide_true, decide_false, true_and, and_true, if_true, if_false, List.map_nil, List.map_cons, List.length_nil, List.length_cons, List.range'_zero, List.range'_succ, List.getElem?_toArray, List.getElem?_cons_zero, List.getElem?_cons_succ, Option.bind_some, Nat.reduceMul, sliceK, AllVP, VOkA, VOkC, AllSz, viewP, viewA, viewC, idsP, idsA, idsC, Mem.without, Mem.drop, remove, newMem, Nat.zero_mul, Nat.zero_le, Nat.lt_add_one, Nat.zero_lt_one, appendK, dstK, okA, srcK, List.drop_zero, List.nil_append, List.length_map, Mem.put, Cells, Cell, AllCell, AV.cells, List.append_nil, List.cons_append, convK, intConvK, strConvK, bytesStrK, binK, strBinK, boolBinK, unK, Int.toNat_natCast, List.headD_cons, beq_int, maxK, minK, pickK, extractK, lenK, loadK, storeK, fieldK, fieldVK, idxK, cutK, bnds, bnd, boxK, allocK, zeroAV, part, ibin, ipre, TK.known, TK.agg, Bool.not_true, Bool.not_false, Bool.false_eq_true, thaw, thawLA, thawA, thawC, thawL, blks, blksLA, blksA, blksC, blksL, Mem.adds, retK, resK, oneK, tkAlt, tkAlt2, r_noGotoN, r_noGotoR, r_noGotoE, r_blockF, d_nil, d_op, d_opg, d_free, z_move, z_assign, z_pick, z_unOp, z_extract, z_convert, z_slice, z_field, z_load, z_indexAddr, z_fieldAddr, z_nilCheck, z_binOp, z_call, z_lit, z_set, litK, d_read, d_back, freeOk, readOk, notOwn, NoNil, mem0, cvK, litC, constK, nilCheckK, AllV, List.length_append, str_size, str_append, str_extract, strOf_B, isB_B, str_toList, str_data, mapB_take, mapB_drop, take_drop', Int.toNat_zero, Nat.sub_zero, Int.cast_ofNat_Int, Int.reduceLE, Int.reduceLT, Int.reduceEq, Int.reduceNe, bne_int, beq_self_eq_true, eq_self, imp_self, implies_true, Int.le_refl, Nat.le_refl, List.set_cons_zero, List.set_cons_succ, List.mem_cons, List.not_mem_nil, or_false, forall_eq_or_imp, forall_eq, false_implies, buildK, fillA, AllKnown, splice, mkEl, or_self, or_true, true_or, elem_I, encI_eq, mapI_take, mapI_drop, List.take_zero, List.headD_cons, List.take_succ_cons, List.getD_cons_zero, List.getD_cons_succ, List.drop_succ_cons, r_pin, x_alloc, x_box, x_build, x_buildSlice, x_load, x_conv, x_makeSlice, x_slice, x_append, x_store, x_indexAddr, o_clear, clearK, x_callF, r1_skip, r1_ret, r1_exit, r1_region, r1_loop, r1_scope, r1_seq, r1_cond, r1_block, r1_range, r_callV, r_callB, idx2K_s, idx2K_l, idx2K_g, bldK, arrK, sapK, arK_eq, o_sap, x_sap, r_mkf1, r_mkf2, frz, mapB, frzE, frzC, FOkE, FOk, SOk, BOk, e1, e2]
     refine ⟨by omega, (d ++ [UInt8.ofNat (v % 128 + 128)], v / 128), ⟨?_, by simp only; omega⟩, by simp only; omega, ?_⟩
     · rw [← h1, List.append_assoc]
       simp only [putL_high (Nat.not_lt.2 hv), List.cons_append, List.nil_append]
     · simp only [↓tk2, ↓tk3, ↓tk4, ↓tk5, ↓tk9, ↓tk12, ↓tk21, ↓tk22, ↓tk23, ↓tk24, ↓tk26, ↓tk27, ↓tk28, ↓tk29, ↓tk30, ↓tk31, ↓tk32, ↓tk33, ↓tk34, ↓tk35, ↓tk36, ↓tk37, ↓tk47, ↓tk49, ↓tk52, ↓tk53, ↓tk55, ↓tk56, ↓tk57, ↓tk65, ↓tk66, ↓tk67, ↓tk68, ↓tk69, ↓tk70, ↓tk71, ↓tk72, ↓tk80, ↓tk111, ↓tk112, ↓tk114, ↓tk126, ↓tk127, ↓tk136, ↓tk142, ↓tk151, ↓tk153, ↓tk155, ↓tk156, ↓tk158, ↓tk162, ↓tx2, ↓tx3, ↓tx4, ↓tx5, ↓tx9, ↓tx12, ↓tx21, ↓tx22, ↓tx23, ↓tx24, ↓tx26, ↓tx27, ↓tx28, ↓tx29, ↓tx30, ↓tx31, ↓tx32, ↓tx33, ↓tx34, ↓tx35, ↓tx36, ↓tx37, ↓tx47, ↓tx49, ↓tx52, ↓tx53, ↓tx55, ↓tx56, ↓tx57, ↓tx65, ↓tx66, ↓tx67, ↓tx68, ↓tx69, ↓tx70, ↓tx71, ↓tx72, ↓tx80, ↓tx111, ↓tx112, ↓tx114, ↓tx126, ↓tx127, ↓tx136, ↓tx142, ↓tx151, ↓tx153, ↓tx155, ↓tx156, ↓tx158, ↓tx162, isU8_5, ty2, ty3, ty4, ty5, ty9, ty12, ty21, ty22, ty23, ty24, ty26, ty27, ty28, ty29, ty30, ty31, ty32, ty33, ty34, ty35, ty36, ty37, ty47, ty49, ty52, ty53, ty55, ty56, ty57, ty65, ty66, ty67, ty68, ty69, ty70, ty71, ty72, ty80, ty111, ty112, ty114, ty126, ty127, ty136, ty142, ty151, ty153, ty155, ty156, ty158, ty162, mkSlots, Nat.zero_add, Nat.reduceAdd, r_skip, r_label, r_ret, r_exit, r_region, r_draw, r_seq, r_cond, r_block, r_loop, r_then, r_thenR, r_thenE, r_blockN, r_blockR, r_blockE, r_condT, r_condF, r_nil, r_op, r_opg, r_gS, r_gU, r_gTT, r_gFF, r_gTF, r_gFT, r_set, r_set0, r_setX, r_skS, r_atM, o_move, o_assign, o_pick, o_alloc, o_box, o_build, o_buildSlice, o_load, o_nilCheck, o_bin, o_un, o_conv, o_makeFunc, o_makeSlice, o_slice, o_fieldAddr, o_field, o_indexAddr, o_extract, o_callF, o_callV, o_len, o_append, o_max, o_min, o_store, slK_eq, stK_eq, blkK_sel, selK_eq, elem_0, elem_s, elem_B, ev_tmp, ev_const, ev_func, ev_global, cv_int, cv_bool, cv_string, cv_slice, cv_ptr, Slots.get, Mem.get, assoc, insert, nbeq, nble, cond_true, cond_false, Option.getD_some, Option.getD_none, Option.map_some, Option.map_none, Option.isNone_none, Option.isNone_some, Option.isSome_none, Option.isSome_some, Nat.reduceEqDiff, Nat.reduceLeDiff, Nat.reduceLT, decide_true, decide_false, true_and, and_true, if_true, if_false, List.map_nil, List.map_cons, List.length_nil, List.length_cons, List.range'_zero, List.range'_succ, List.getElem?_toArray, List.getElem?_cons_zero, List.getElem?_cons_succ, Option.bind_some, Nat.reduceMul, sliceK, AllVP, VOkA, VOkC, AllSz, viewP, viewA, viewC, idsP, idsA, idsC, Mem.without, Mem.drop, remove, newMem, Nat.zero_mul, Nat.zero_le, Nat.lt_add_one, Nat.zero_lt_one, appendK, dstK, okA, srcK, List.drop_zero, List.nil_append, List.length_map, Mem.put, Cells, Cell, AllCell, AV.cells, List.append_nil, List.cons_append, convK, intConvK, strConvK, bytesStrK, binK, strBinK, boolBinK, unK, Int.toNat_natCast, List.headD_cons, beq_int, maxK, minK, pickK, extractK, lenK, loadK, storeK, fieldK, fieldVK, idxK, cutK, bnds, bnd, boxK, allocK, zeroAV, part, ibin, ipre, TK.known, TK.agg, Bool.not_true, Bool.not_false, Bool.false_eq_true, thaw, thawLA, thawA, thawC, thawL, blks, blksLA, blksA, blksC, blksL, Mem.adds, retK, resK, oneK, tkAlt, tkAlt2, r_noGotoN, r_noGotoR, r_noGotoE, r_blockF, d_nil, d_op, d_opg, d_free, z_move, z_assign, z_pick, z_unOp, z_extract, z_convert, z_slice, z_field, z_load, z_indexAddr, z_fieldAddr, z_nilCheck, z_binOp, z_call, z_lit, z_set, litK, d_read, d_back, freeOk, readOk, notOwn, NoNil, mem0, cvK, litC, constK, nilCheckK, AllV, List.length_append, str_size, str_append, str_extract, strOf_B, isB_B, str_toList, str_data, mapB_take, mapB_drop, take_drop', Int.toNat_zero, Nat.sub_zero, Int.cast_ofNat_Int, Int.reduceLE, Int.reduceLT, Int.reduceEq, Int.reduceNe, bne_int, beq_self_eq_true, eq_self, imp_self, implies_true, Int.le_refl, Nat.le_refl, List.set_cons_zero, List.set_cons_succ, List.mem_cons, List.not_mem_nil, or_false, forall_eq_or_imp, forall_eq, false_implies, buildK, fillA, AllKnown, splice, mkEl, or_self, or_true, true_or, elem_I, encI_eq, mapI_take, mapI_drop, List.take_zero, List.headD_cons, List.take_succ_cons, List.getD_cons_zero, List.getD_cons_succ, List.drop_succ_cons, r_pin, x_alloc, x_box, x_build, x_buildSlice, x_load, x_conv, x_makeSlice, x_slice, x_append, x_store, x_indexAddr, o_clear, clearK, x_callF, r1_skip, r1_ret, r1_exit, r1_region, r1_loop, r1_scope, r1_seq, r1_cond, r1_block, r1_range, r_callV, r_callB, idx2K_s, idx2K_l, idx2K_g, bldK, arrK, sapK, arK_eq, o_sap, x_sap, r_mkf1, r_mkf2, frz, mapB, frzE, frzC, FOkE, FOk, SOk, BOk, Fits, slFit, memFit, under_c, under_s, under_x, under_p, under_l, underL_nil, underL_B, underL_B1, under_g, under_t, underL_I, underL_cons, List.mem_cons, List.not_mem_nil, or_false, forall_eq_or_imp, forall_eq, AV.cells, rput_I, rput_byte, e2, underL_append, mapB_snoc]
end Go.Ab
