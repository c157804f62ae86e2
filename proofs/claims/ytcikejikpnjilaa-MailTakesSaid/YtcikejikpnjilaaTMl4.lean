/- Mail: the books that come next. Mail: what is taken: the calls that fill in, with the caller's names. Mail: what is put: numbers, through a variable that was lent. -/
import Derived.Test.YtcikejikpnjilaaTMl2
import Derived.Test.YtcikejikpnjilaaTCl3
import Derived.Test.YtcikejikpnjilaaTRt8
import Derived.Test.YtcikejikpnjilaaTCl2
import Derived.Test.YtcikejikpnjilaaAbG9
set_option linter.unusedSimpArgs false
set_option linter.unusedVariables false
set_option linter.constructorNameAsVariable false
set_option maxRecDepth 100000
namespace Go.Ab
open Go Go.Proofs Go.RowKit

set_option maxHeartbeats 2000000 in
theorem mlrows_call (c : Conf) (s : RdT) (hl : s.1.length ≤ 1000000000) : ICall Try.prog 17 [.p 0 0 0 1, ConfA c] ⟨mkMem 0 [RdB s], 1⟩
    (fun a M' => a = .l 3 ((takeB M63 c s.1).1.map RowV) ∧ M' = ⟨[(0, RdB (afterR c s)), (1, ⟨23, 6, [ConfA c]⟩)], 2⟩) := by
  obtain ⟨b, bad⟩ := s
  have m1 := ptake_call c b hl
  refine icall_body tabOk Try.func17 rfl rfl (by rw [Try.ntmps17]; simp) (aw_sound tabOk _ _ _ ?_)
  simp only [Try.ntmps17, mkMem, RdB, Bs, ConfA]
  simp only [↓wt, wu, wk0, wk1, wk2, wk3, Nat.reduceAdd, Nat.reduceEqDiff, Nat.reduceLeDiff, Nat.reduceLT, Nat.reduceMul, Int.reduceLE, Int.reduceLT, Int.reduceEq, Int.reduceNe, wk4, laidS, keepS]
  refine draw_rule tabOk mixed [2, 0, 0, 0, 2, 1, 0, 0, 0, 0, 0, 0, 0] [[], [], [1], [1, 2], [1, 2, 3], [0, 1, 2, 3, 4], [0, 1, 2, 3, 4, 5], [0, 1, 2, 3, 4, 5, 6], [0, 1, 2, 3, 4, 5, 6], [0, 1, 2, 3, 4, 5, 6], [0, 1, 2, 3, 4, 5, 6, 7], [0, 1, 2, 3, 4, 5, 6, 7, 8, 10], [0, 1, 2, 3, 4, 5, 6, 7, 8, 9, 10, 11]] (by kernel_rfl) ?_
  simp only [↓wt, wu, wk0, wk1, wk2, wk3, Nat.reduceAdd, Nat.reduceEqDiff, Nat.reduceLeDiff, Nat.reduceLT, Nat.reduceMul, Int.reduceLE, Int.reduceLT, Int.reduceEq, Int.reduceNe, wk4, laidS, keepS]
  refine d_heavyC (icall_drop [] m1 ⟨arg_conf', arg_l (pureB _), trivial⟩ okR_manyR ⟨rfl, rfl⟩) ?_
  simp only [↓wt, wu, wk0, wk1, wk2, wk3, Nat.reduceAdd, Nat.reduceEqDiff, Nat.reduceLeDiff, Nat.reduceLT, Nat.reduceMul, Int.reduceLE, Int.reduceLT, Int.reduceEq, Int.reduceNe, wk4, laidS, keepS, Bs, TakeV, BooksV]
  cases bad
  · simp only [↓wt, wu, wk0, wk1, wk2, wk3, Nat.reduceAdd, Nat.reduceEqDiff, Nat.reduceLeDiff, Nat.reduceLT, Nat.reduceMul, Int.reduceLE, Int.reduceLT, Int.reduceEq, Int.reduceNe, wk4, laidS, keepS, Cell, Try.results17]
    simp only [afterR, Bool.false_or, Bool.true_or]
  · simp only [↓wt, wu, wk0, wk1, wk2, wk3, Nat.reduceAdd, Nat.reduceEqDiff, Nat.reduceLeDiff, Nat.reduceLT, Nat.reduceMul, Int.reduceLE, Int.reduceLT, Int.reduceEq, Int.reduceNe, wk4, laidS, keepS, Cell, Try.results17]
    simp only [afterR, Bool.false_or, Bool.true_or]
end Go.Ab

set_option linter.unusedSimpArgs false
set_option linter.unusedVariables false
set_option linter.constructorNameAsVariable false
set_option maxRecDepth 100000
namespace Go.Ab
open Go Go.Proofs Go.RowKit

theorem Under.mono {k n : Nat} (hk : k ≤ n) {a : AV} (h : Under k a) : Under n a := by
  induction h with
  | c v => exact .c v
  | x => exact .x
  | l sz xs h ih => exact .l sz xs ih
  | g cs h ih => exact .g cs ih
  | t cs h ih => exact .t cs ih
  | e cs h ih => exact .e cs ih
  | f fn cs h ih => exact .f fn cs ih
  | b fn cs h ih => exact .b fn cs ih
  | p id i j m h => exact .p _ _ _ _ (by omega)
  | s id off m h => exact .s _ _ _ (by omega)
/-- A part that is data. -/
def isD : AV → Prop
  | .c _ => True
  | .l _ xs => PureL xs
  | _ => False
theorem isD.cell {a : AV} (h : isD a) : Cell a := by cases a <;> first | trivial | exact h.elim
theorem isD.under {n : Nat} {a : AV} (h : isD a) : Under n a := by
  cases a <;> first | exact .c _ | exact h.elim | skip
  rename_i sz xs
  refine .l _ _ fun i hi j hj => (show Under 0 _ from h i hi j hj).mono (Nat.zero_le _)
theorem isD.hd {n : Nat} {a : AV} (h : isD a) : HdC n a := by
  cases a <;> first | exact h.elim | skip
  · exact .c _
  · exact .l _ _ h
theorem isD.rn {f : Nat → Nat} {a : AV} (h : isD a) : rnC f a = a := by
  cases a <;> first | rfl | exact h.elim
theorem rnD {f : Nat → Nat} {cs : List AV} (h : ∀ a ∈ cs, isD a) : cs.map (rnC f) = cs := by
  rw [List.map_congr_left (g := fun x => x) fun x hx => (h x hx).rn, List.map_id']
theorem isD_wr : ∀ (js : List Nat) (s : RdT) (cs : List AV), (∀ a ∈ cs, isD a) → ∀ a ∈ wr js s cs, isD a
  | [], s, cs, h => h
  | j :: js, s, cs, h => isD_wr js _ _ fun a ha => by
    simp only [wr1, List.mem_append, List.mem_singleton] at ha
    rcases ha with (ha | rfl) | ha
    · exact h a (List.mem_of_mem_take ha)
    · trivial
    · exact h a (List.mem_of_mem_drop ha)
theorem ints_lend {M : Mem} {K : AV → Mem → Prop} (a t d : Nat) (js : List Nat) (s : RdT) {T : TypeId} {n : Nat} {cs : List AV} (hn : [a, t, d].Nodup) (ha : M.get a = some (RdB s)) (ht : M.get t = some ⟨T, n, [.g cs]⟩) (hs : n = cs.length)
    (hd : M.get d = some ⟨50, 1, js.map fun j => .p t 0 j 1⟩) (hl : s.1.length ≤ 1000000000) (hj : ∀ j ∈ js, j < cs.length) (hc : ∀ x ∈ cs, isD x) (hk : js.length ≤ 100)
    (hK : K (.t []) ⟨putAll (rnI [a, t, d] M.k) (M.without [a, t, d]).l (FillN js s T cs 50 js.length).l, M.k⟩) : ICall Try.prog 15 [.p a 0 0 1, .s d 0 js.length] M K := by
  subst hs
  refine icall_lend [a, t, d] [RdB s, ⟨T, cs.length, [.g cs]⟩, ⟨50, 1, js.map ptr⟩] (ints_call js s T cs hl hj (fun x hx => (hc x hx).cell) (fun x hx => (hc x hx).under) hk) hn ⟨⟨ha, hd_Rd⟩, ⟨?_, ?_⟩, ⟨?_, ?_⟩, trivial⟩ ⟨.inl ⟨rfl, show 0 < 3 by decide⟩, .inl ⟨rfl, show 2 < 3 by decide⟩, trivial⟩ (fun v hv => by simp at hv) ⟨hd_Rd, ?_, ?_, trivial⟩ hK
  · rw [ht]
    show some (Blk.mk T cs.length [.g cs]) = some ⟨T, cs.length, [.g (cs.map (rnC _))]⟩
    rw [rnD hc]
  · intro x hx
    rw [List.mem_singleton.1 hx]
    exact fun c h => (hc c h).hd
  · rw [hd]
    show some (Blk.mk _ 1 (js.map fun j => AV.p t 0 j 1)) = some ⟨_, 1, (js.map ptr).map (rnE (rnI [a, t, d] M.k))⟩
    rw [List.map_map]
    rfl
  · intro x hx
    obtain ⟨j, _, rfl⟩ := List.mem_map.1 hx
    exact (show 1 < 3 by decide)
  · intro x hx
    rw [List.mem_singleton.1 hx]
    exact fun c h => (isD_wr (js.take js.length) s cs hc c h).hd
  · intro x hx
    obtain ⟨j, _, rfl⟩ := List.mem_map.1 hx
    exact (show 1 < 3 by decide)
theorem wide_lend {M : Mem} {K : AV → Mem → Prop} (a t d : Nat) (js : List Nat) (s : RdT) {T : TypeId} {n : Nat} {cs : List AV} (hn : [a, t, d].Nodup) (ha : M.get a = some (RdB s)) (ht : M.get t = some ⟨T, n, [.g cs]⟩) (hs : n = cs.length)
    (hd : M.get d = some ⟨52, 1, js.map fun j => .p t 0 j 1⟩) (hl : s.1.length ≤ 1000000000) (hj : ∀ j ∈ js, j < cs.length) (hc : ∀ x ∈ cs, isD x) (hk : js.length ≤ 100)
    (hK : K (.t []) ⟨putAll (rnI [a, t, d] M.k) (M.without [a, t, d]).l (FillN js s T cs 52 js.length).l, M.k⟩) : ICall Try.prog 16 [.p a 0 0 1, .s d 0 js.length] M K := by
  subst hs
  refine icall_lend [a, t, d] [RdB s, ⟨T, cs.length, [.g cs]⟩, ⟨52, 1, js.map ptr⟩] (wide_call js s T cs hl hj (fun x hx => (hc x hx).cell) (fun x hx => (hc x hx).under) hk) hn ⟨⟨ha, hd_Rd⟩, ⟨?_, ?_⟩, ⟨?_, ?_⟩, trivial⟩ ⟨.inl ⟨rfl, show 0 < 3 by decide⟩, .inl ⟨rfl, show 2 < 3 by decide⟩, trivial⟩ (fun v hv => by simp at hv) ⟨hd_Rd, ?_, ?_, trivial⟩ hK
  · rw [ht]
    show some (Blk.mk T cs.length [.g cs]) = some ⟨T, cs.length, [.g (cs.map (rnC _))]⟩
    rw [rnD hc]
  · intro x hx
    rw [List.mem_singleton.1 hx]
    exact fun c h => (hc c h).hd
  · rw [hd]
    show some (Blk.mk _ 1 (js.map fun j => AV.p t 0 j 1)) = some ⟨_, 1, (js.map ptr).map (rnE (rnI [a, t, d] M.k))⟩
    rw [List.map_map]
    rfl
  · intro x hx
    obtain ⟨j, _, rfl⟩ := List.mem_map.1 hx
    exact (show 1 < 3 by decide)
  · intro x hx
    rw [List.mem_singleton.1 hx]
    exact fun c h => (isD_wr (js.take js.length) s cs hc c h).hd
  · intro x hx
    obtain ⟨j, _, rfl⟩ := List.mem_map.1 hx
    exact (show 1 < 3 by decide)
end Go.Ab

set_option linter.unusedSimpArgs false
set_option linter.unusedVariables false
set_option linter.constructorNameAsVariable false
set_option maxRecDepth 100000
namespace Go.Ab
open Go Go.Proofs Go.RowKit

def PutN (l : List UInt8) (ns : List Int) : Mem := ⟨[(0, ⟨24, 1, [Bs l]⟩), (1, ⟨2, 1, ns.map encI⟩)], 2⟩
set_option maxHeartbeats 2000000 in
theorem mlput1_call (l : List UInt8) (ns : List Int) (hl : l.length + 10 * ns.length ≤ 1000000000) : ICall Try.prog 22 [.s 1 0 ns.length, .p 0 0 0 1] (PutN l ns) (fun a M' => a = .t [] ∧ M' = PutN (l ++ encN ns) ns) := by
  refine icall_body tabOk Try.func22 rfl rfl (by rw [Try.ntmps22]; simp) (aw_sound tabOk _ _ _ ?_)
  simp only [Try.ntmps22, PutN, Bs]
  simp only [↓wt, wu, wk0, wk1, wk2, wk3, Nat.reduceAdd, Nat.reduceEqDiff, Nat.reduceLeDiff, Nat.reduceLT, Nat.reduceMul, Int.reduceLE, Int.reduceLT, Int.reduceEq, Int.reduceNe, wk4, laidS, keepS]
  refine loop_ruleM tabOk [1, 5, 6] (fun k : Nat => [(7, .c (.int .i64 k))]) (fun k => PutN (l ++ encN (ns.take k)) ns) (fun k => k ≤ ns.length) (fun k => ns.length - k) 0 (by omega) (fun _ => rfl) ?_ ?_
  · simp only [↓wt, wu, wk0, wk1, wk2, wk3, wkf, Nat.reduceAdd, Nat.reduceEqDiff, Nat.reduceLeDiff, Nat.reduceLT, Nat.reduceMul, Int.reduceLE, Int.reduceLT, Int.reduceEq, Int.reduceNe, wk4, laidS, keepS, PutN, Bs, encN, List.take_zero, List.append_nil]
    try trivial
  · intro k h1
    have e3 := wi_succ (k := k) (by omega)
    have h2 := encNI_len (l := ns) (k := k)
    simp only [↓wt, wu, wk0, wk1, wk2, wk3, Nat.reduceAdd, Nat.reduceEqDiff, Nat.reduceLeDiff, Nat.reduceLT, Nat.reduceMul, Int.reduceLE, Int.reduceLT, Int.reduceEq, Int.reduceNe, wk4, laidS, keepS, PutN, Bs]
    repeat' (first | (refine r_casesD (fun hp hb => ?_) (fun hp hb => ?_) <;> simp only [↓wt, wu, wk0, wk1, wk2, wk3, Nat.reduceAdd, Nat.reduceEqDiff, Nat.reduceLeDiff, Nat.reduceLT, Nat.reduceMul, Int.reduceLE, Int.reduceLT, Int.reduceEq, Int.reduceNe, wk4, laidS, keepS, hb]) | (refine r_casesN (fun hp hb => ?_) (fun hp hb => ?_) <;> simp only [↓wt, wu, wk0, wk1, wk2, wk3, Nat.reduceAdd, Nat.reduceEqDiff, Nat.reduceLeDiff, Nat.reduceLT, Nat.reduceMul, Int.reduceLE, Int.reduceLT, Int.reduceEq, Int.reduceNe, wk4, laidS, keepS, hb]) | (refine r_casesM (fun hp hb => ?_) (fun hp hb => ?_) <;> simp only [↓wt, wu, wk0, wk1, wk2, wk3, Nat.reduceAdd, Nat.reduceEqDiff, Nat.reduceLeDiff, Nat.reduceLT, Nat.reduceMul, Int.reduceLE, Int.reduceLT, Int.reduceEq, Int.reduceNe, wk4, laidS, keepS, hb]) | (refine r_casesB (fun hp hb => ?_) (fun hp hb => ?_) <;> simp only [↓wt, wu, wk0, wk1, wk2, wk3, Nat.reduceAdd, Nat.reduceEqDiff, Nat.reduceLeDiff, Nat.reduceLT, Nat.reduceMul, Int.reduceLE, Int.reduceLT, Int.reduceEq, Int.reduceNe, wk4, laidS, keepS, hb]) | (refine r_gcasesD (fun hp hb => ?_) (fun hp hb => ?_) <;> simp only [↓wt, wu, wk0, wk1, wk2, wk3, Nat.reduceAdd, Nat.reduceEqDiff, Nat.reduceLeDiff, Nat.reduceLT, Nat.reduceMul, Int.reduceLE, Int.reduceLT, Int.reduceEq, Int.reduceNe, wk4, laidS, keepS, hb]) | (refine r_gcasesN (fun hp hb => ?_) (fun hp hb => ?_) <;> simp only [↓wt, wu, wk0, wk1, wk2, wk3, Nat.reduceAdd, Nat.reduceEqDiff, Nat.reduceLeDiff, Nat.reduceLT, Nat.reduceMul, Int.reduceLE, Int.reduceLT, Int.reduceEq, Int.reduceNe, wk4, laidS, keepS, hb]) | (refine r_gcasesM (fun hp hb => ?_) (fun hp hb => ?_) <;> simp only [↓wt, wu, wk0, wk1, wk2, wk3, Nat.reduceAdd, Nat.reduceEqDiff, Nat.reduceLeDiff, Nat.reduceLT, Nat.reduceMul, Int.reduceLE, Int.reduceLT, Int.reduceEq, Int.reduceNe, wk4, laidS, keepS, hb]) | (refine r_gcasesB (fun hp hb => ?_) (fun hp hb => ?_) <;> simp only [↓wt, wu, wk0, wk1, wk2, wk3, Nat.reduceAdd, Nat.reduceEqDiff, Nat.reduceLeDiff, Nat.reduceLT, Nat.reduceMul, Int.reduceLE, Int.reduceLT, Int.reduceEq, Int.reduceNe, wk4, laidS, keepS, hb]) | ((with_reducible refine And.intro ?_ ?_); omega) | fail)
    · have hkl : k < ns.length := by omega
      simp only [↓wt, wu, wk0, wk1, wk2, wk3, Nat.reduceAdd, Nat.reduceEqDiff, Nat.reduceLeDiff, Nat.reduceLT, Nat.reduceMul, Int.reduceLE, Int.reduceLT, Int.reduceEq, Int.reduceNe, wk4, laidS, keepS, elem_I, uNat_eq]
      repeat (refine And.intro (by omega) ?_)
      refine icall_drop [] (nput_call (l ++ encN (ns.take k)) (uNat (ns.getD k 0)) (by rw [List.length_append]; omega) (uNat_lt _)).frz ⟨arg_l (pureB _), arg_c, trivial⟩ under_B ?_
      simp only [↓wt, wu, wk0, wk1, wk2, wk3, Nat.reduceAdd, Nat.reduceEqDiff, Nat.reduceLeDiff, Nat.reduceLT, Nat.reduceMul, Int.reduceLE, Int.reduceLT, Int.reduceEq, Int.reduceNe, wk4, laidS, keepS, e3, Bs, Cell]
      refine ⟨k + 1, by omega, by omega, ?_⟩
      simp only [↓wt, wu, wk0, wk1, wk2, wk3, wkf, Nat.reduceAdd, Nat.reduceEqDiff, Nat.reduceLeDiff, Nat.reduceLT, Nat.reduceMul, Int.reduceLE, Int.reduceLT, Int.reduceEq, Int.reduceNe, wk4, laidS, keepS, Bs, e3, underL_I, takeI_snoc, hkl, List.append_assoc]
      try trivial
    · have hk2 : k = ns.length := by omega
      subst hk2
      simp only [↓wt, wu, wk0, wk1, wk2, wk3, Nat.reduceAdd, Nat.reduceEqDiff, Nat.reduceLeDiff, Nat.reduceLT, Nat.reduceMul, Int.reduceLE, Int.reduceLT, Int.reduceEq, Int.reduceNe, wk4, laidS, keepS, Bs, List.take_length, Try.results22]
      try exact ⟨rfl, rfl⟩
theorem mlput1_lend {M : Mem} {K : AV → Mem → Prop} (a d : Nat) (l : List UInt8) (ns : List Int) {n : Nat} (hs : n = ns.length) (hn : [a, d].Nodup) (ha : M.get a = some ⟨24, 1, [Bs l]⟩) (hd : M.get d = some ⟨2, 1, ns.map encI⟩) (hl : l.length + 10 * ns.length ≤ 1000000000)
    (hK : K (.t []) ⟨putAll (rnI [a, d] M.k) (M.without [a, d]).l (PutN (l ++ encN ns) ns).l, M.k⟩) : ICall Try.prog 22 [.s d 0 n, .p a 0 0 1] M K := by
  subst hs
  refine icall_lend [a, d] [⟨24, 1, [Bs l]⟩, ⟨2, 1, ns.map encI⟩] (mlput1_call l ns hl) hn ⟨⟨ha, ?_⟩, ⟨?_, hd_I⟩, trivial⟩ ⟨.inl ⟨rfl, show 1 < 2 by decide⟩, .inl ⟨rfl, show 0 < 2 by decide⟩, trivial⟩ (fun v hv => by simp at hv) ⟨?_, hd_I, trivial⟩ hK
  · intro x hx
    rw [List.mem_singleton.1 hx]
    exact .l _ _ (pureB _)
  · rw [hd]
    show some (Blk.mk _ 1 (ns.map encI)) = some ⟨_, 1, (ns.map encI).map (rnE (rnI [a, d] M.k))⟩
    rw [rn_I]
  · intro x hx
    rw [List.mem_singleton.1 hx]
    exact .l _ _ (pureB _)
end Go.Ab
