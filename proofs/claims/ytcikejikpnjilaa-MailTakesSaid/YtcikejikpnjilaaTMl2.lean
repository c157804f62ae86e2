/- Mail: a number is read by a reader that was lent. Mail: numbers are filled in, through pointers that were lent. Paint: what is taken: the program's, the reference's. -/
import Derived.Test.YtcikejikpnjilaaTCl3
import Derived.Test.YtcikejikpnjilaaTNb2
import Derived.Test.YtcikejikpnjilaaAbG9
import Derived.Test.YtcikejikpnjilaaTCl2
set_option linter.unusedSimpArgs false
set_option linter.unusedVariables false
set_option linter.constructorNameAsVariable false
set_option maxRecDepth 100000
namespace Go.Ab
open Go Go.Proofs Go.RowKit

def RdB (s : RdT) : Blk := ⟨48, 2, [.g [Bs s.1, .c (.bool s.2)]]⟩
set_option maxHeartbeats 2000000 in
theorem mlnum_call (s : RdT) (hl : s.1.length ≤ 1000000000) : ICall Try.prog 31 [.p 0 0 0 1] ⟨mkMem 0 [RdB s], 1⟩ (fun a M' => a = .c (.int .i64 (rdV s)) ∧ M' = ⟨[(0, RdB (rdS s))], 1⟩) := by
  obtain ⟨b, bad⟩ := s
  have m1 := ntake_call b hl (tk_is b)
  refine icall_body tabOk Try.func31 rfl rfl (by rw [Try.ntmps31]; simp) (aw_sound tabOk _ _ _ ?_)
  simp only [Try.ntmps31, mkMem, RdB, Bs]
  simp only [↓wt, wu, wk0, wk1, wk2, wk3, Nat.reduceAdd, Nat.reduceEqDiff, Nat.reduceLeDiff, Nat.reduceLT, Nat.reduceMul, Int.reduceLE, Int.reduceLT, Int.reduceEq, Int.reduceNe, wk4, laidS, keepS]
  refine icall_drop [] m1 ⟨arg_l (pureB _), trivial⟩ okR_take ?_
  simp only [↓wt, wu, wk0, wk1, wk2, wk3, Nat.reduceAdd, Nat.reduceEqDiff, Nat.reduceLeDiff, Nat.reduceLT, Nat.reduceMul, Int.reduceLE, Int.reduceLT, Int.reduceEq, Int.reduceNe, wk4, laidS, keepS, Bs, Cell]
  have e : decide ((((tk b).1 : Nat) : Int) ≥ 4611686018427387904) = !decide ((tk b).1 < 4611686018427387904) := by rw [← decide_not]; exact decide_eq_decide.2 (by omega)
  cases bad
  · cases ho : (tk b).2.2
    · simp only [↓wt, wu, wk0, wk1, wk2, wk3, Nat.reduceAdd, Nat.reduceEqDiff, Nat.reduceLeDiff, Nat.reduceLT, Nat.reduceMul, Int.reduceLE, Int.reduceLT, Int.reduceEq, Int.reduceNe, wk4, laidS, keepS, ho, Cell, Try.results31]
      have h1 : rdV (b, false) = 0 := by simp [rdV, num, ho]
      have h2 : rdS (b, false) = (b, true) := by simp [rdS, num, ho]
      rw [h1, h2]
      exact ⟨rfl, rfl⟩
    · by_cases hv : (tk b).1 < 4611686018427387904
      · simp only [↓wt, wu, wk0, wk1, wk2, wk3, Nat.reduceAdd, Nat.reduceEqDiff, Nat.reduceLeDiff, Nat.reduceLT, Nat.reduceMul, Int.reduceLE, Int.reduceLT, Int.reduceEq, Int.reduceNe, wk4, laidS, keepS, ho, hv, e, Cell, Try.results31]
        have h1 : rdV (b, false) = IntKind.i64.wrap ((tk b).1 : Int) := by simp [rdV, num, ho, hv]
        have h2 : rdS (b, false) = ((tk b).2.1, false) := by simp [rdS, num, ho, hv]
        rw [h1, h2]
        exact ⟨rfl, rfl⟩
      · simp only [↓wt, wu, wk0, wk1, wk2, wk3, Nat.reduceAdd, Nat.reduceEqDiff, Nat.reduceLeDiff, Nat.reduceLT, Nat.reduceMul, Int.reduceLE, Int.reduceLT, Int.reduceEq, Int.reduceNe, wk4, laidS, keepS, ho, hv, e, Cell, Try.results31]
        have h1 : rdV (b, false) = 0 := by simp [rdV, num, ho, hv]
        have h2 : rdS (b, false) = (b, true) := by simp [rdS, num, ho, hv]
        rw [h1, h2]
        exact ⟨rfl, rfl⟩
  · simp only [↓wt, wu, wk0, wk1, wk2, wk3, Nat.reduceAdd, Nat.reduceEqDiff, Nat.reduceLeDiff, Nat.reduceLT, Nat.reduceMul, Int.reduceLE, Int.reduceLT, Int.reduceEq, Int.reduceNe, wk4, laidS, keepS, Cell, Try.results31]
    have h1 : rdV (b, true) = 0 := by simp [rdV]
    have h2 : rdS (b, true) = (b, true) := by simp [rdS]
    rw [h1, h2]
    exact ⟨rfl, rfl⟩
end Go.Ab

set_option linter.unusedSimpArgs false
set_option linter.unusedVariables false
set_option linter.constructorNameAsVariable false
set_option maxRecDepth 100000
namespace Go.Ab
open Go Go.Proofs Go.RowKit

/-- A pointer to a part of what was lent; what is written there. -/
def ptr (j : Nat) : AV := .p 1 0 j 1
theorem ptr_eq {j : Nat} : ptr j = .p 1 0 j 1 := rfl
theorem elem_ptr {js : List Nat} {i : Nat} {K : AV → Prop} : Elem (js.map ptr) i K = (i < js.length ∧ K (ptr (js.getD i 0))) := elem_map 0
def wr1 (cs : List AV) (j : Nat) (v : AV) : List AV := cs.take j ++ [v] ++ cs.drop (j + 1)
theorem wr1_len {cs : List AV} {j : Nat} {v : AV} (h : j < cs.length) : (wr1 cs j v).length = cs.length := by simp [wr1]; omega
theorem wr1_cell {cs : List AV} {j : Nat} {v : AV} (h : ∀ a ∈ cs, Cell a) (hv : Cell v) : ∀ a ∈ wr1 cs j v, Cell a := fun a ha => by
  simp only [wr1, List.mem_append, List.mem_singleton] at ha
  rcases ha with (ha | rfl) | ha
  · exact h a (List.mem_of_mem_take ha)
  · exact hv
  · exact h a (List.mem_of_mem_drop ha)
noncomputable def wr : List Nat → RdT → List AV → List AV
  | [], _, cs => cs
  | j :: js, s, cs => wr js (rdS s) (wr1 cs j (.c (.int .i64 (rdV s))))
theorem wr_snoc : ∀ (js : List Nat) (j : Nat) (s : RdT) (cs : List AV), wr (js ++ [j]) s cs = wr1 (wr js s cs) j (.c (.int .i64 (rdV (stN js.length s))))
  | [], j, s, cs => rfl
  | i :: js, j, s, cs => wr_snoc js j (rdS s) _
theorem wr_step {js : List Nat} {k : Nat} (h : k < js.length) (s : RdT) (cs : List AV) : wr (js.take (k + 1)) s cs = wr1 (wr (js.take k) s cs) (js.getD k 0) (.c (.int .i64 (rdV (stN k s)))) := by
  have e : js.take (k + 1) = js.take k ++ [js.getD k 0] := by
    rw [List.take_add_one, List.getElem?_eq_getElem h, List.getD_eq_getElem?_getD, List.getElem?_eq_getElem h]; rfl
  rw [e, wr_snoc, List.length_take, Nat.min_eq_left (by omega)]
theorem wr_len : ∀ (js : List Nat) (s : RdT) (cs : List AV), (∀ j ∈ js, j < cs.length) → (wr js s cs).length = cs.length
  | [], s, cs, _ => rfl
  | j :: js, s, cs, h => by
    have hj := h j (by simp)
    have e := wr1_len (v := .c (.int .i64 (rdV s))) hj
    rw [wr, wr_len js _ _ fun i hi => by rw [e]; exact h i (by simp [hi]), e]
theorem wr_cell : ∀ (js : List Nat) (s : RdT) (cs : List AV), (∀ a ∈ cs, Cell a) → ∀ a ∈ wr js s cs, Cell a
  | [], s, cs, h => h
  | j :: js, s, cs, h => wr_cell js _ _ (wr1_cell h trivial)
theorem wr_under {n : Nat} : ∀ (js : List Nat) (s : RdT) (cs : List AV), (∀ a ∈ cs, Under n a) → ∀ a ∈ wr js s cs, Under n a
  | [], s, cs, h => h
  | j :: js, s, cs, h => wr_under js _ _ fun a ha => by
    simp only [wr1, List.mem_append, List.mem_singleton] at ha
    rcases ha with (ha | rfl) | ha
    · exact h a (List.mem_of_mem_take ha)
    · exact .c _
    · exact h a (List.mem_of_mem_drop ha)
theorem hd_Rd {n : Nat} {s : RdT} : ∀ x ∈ (RdB s).xs, HdE n x := fun x hx => by
  rw [List.mem_singleton.1 hx]
  intro c hc
  simp only [List.mem_cons, List.not_mem_nil, or_false] at hc
  rcases hc with rfl | rfl
  · exact .l _ _ (pureB _)
  · exact .c _
theorem under_Rd {n : Nat} {s : RdT} : UnderL n (RdB s).xs := underL_mem fun x hx c hc => by
  rw [List.mem_singleton.1 hx] at hc
  simp only [AV.cells, List.mem_cons, List.not_mem_nil, or_false] at hc
  rcases hc with rfl | rfl
  · exact under_Bs.mpr trivial
  · exact .c _
theorem under_RdL {n : Nat} {b : List UInt8} {x : Bool} : UnderL n [.g [.l 1 (b.map encB), .c (.bool x)]] := under_Rd (s := (b, x))
theorem underL_ptr {js : List Nat} : UnderL 3 (js.map ptr) = True := eq_true (underL_map 3 (fun a x hx => by
  simp only [ptr, AV.cells, List.mem_singleton] at hx
  subst hx; exact .p _ _ _ _ (by decide)) js)
noncomputable def FillN (js : List Nat) (s : RdT) (T : TypeId) (cs : List AV) (U : TypeId) (k : Nat) : Mem := ⟨[(0, RdB (stN k s)), (1, ⟨T, cs.length, [.g (wr (js.take k) s cs)]⟩), (2, ⟨U, 1, js.map ptr⟩)], 3⟩
theorem underL_g {n : Nat} {cs : List AV} (h : ∀ a ∈ cs, Under n a) : UnderL n [.g cs] := underL_mem fun x hx c hc => by
  rw [List.mem_singleton.1 hx] at hc
  exact h c hc
set_option maxHeartbeats 2000000 in
theorem ints_call (js : List Nat) (s : RdT) (T : TypeId) (cs : List AV) (hl : s.1.length ≤ 1000000000) (hj : ∀ j ∈ js, j < cs.length) (hc : ∀ a ∈ cs, Cell a) (hu : ∀ a ∈ cs, Under 3 a) (hk : js.length ≤ 100) :
    ICall Try.prog 15 [.p 0 0 0 1, .s 2 0 js.length] (FillN js s T cs 50 0) (fun a M' => a = .t [] ∧ M' = FillN js s T cs 50 js.length) := by
  refine icall_body tabOk Try.func15 rfl rfl (by rw [Try.ntmps15]; simp) (aw_sound tabOk _ _ _ ?_)
  simp only [Try.ntmps15]
  simp only [↓wt, wu, wk0, wk1, wk2, wk3, Nat.reduceAdd, Nat.reduceEqDiff, Nat.reduceLeDiff, Nat.reduceLT, Nat.reduceMul, Int.reduceLE, Int.reduceLT, Int.reduceEq, Int.reduceNe, wk4, laidS, keepS, FillN]
  refine loop_ruleM tabOk [0, 6, 7] (fun k : Nat => [(8, .c (.int .i64 k))]) (fun k => FillN js s T cs 50 k) (fun k => k ≤ js.length) (fun k => js.length - k) 0 (by omega) (fun _ => rfl) ?_ ?_
  · simp only [↓wt, wu, wk0, wk1, wk2, wk3, wkf, Nat.reduceAdd, Nat.reduceEqDiff, Nat.reduceLeDiff, Nat.reduceLT, Nat.reduceMul, Int.reduceLE, Int.reduceLT, Int.reduceEq, Int.reduceNe, wk4, laidS, keepS, FillN, underL_ptr]
    exact ⟨under_Rd, hu⟩
  · intro k h1
    have e3 := wi_succ (k := k) (by omega)
    have hs := stN_len k s
    have hwl := wr_len (js.take k) s cs fun j h => hj j (List.mem_of_mem_take h)
    have hwc := wr_cell (js.take k) s cs hc
    simp only [↓wt, wu, wk0, wk1, wk2, wk3, Nat.reduceAdd, Nat.reduceEqDiff, Nat.reduceLeDiff, Nat.reduceLT, Nat.reduceMul, Int.reduceLE, Int.reduceLT, Int.reduceEq, Int.reduceNe, wk4, laidS, keepS, FillN]
    repeat' (first | (refine r_casesD (fun hp hb => ?_) (fun hp hb => ?_) <;> simp only [↓wt, wu, wk0, wk1, wk2, wk3, Nat.reduceAdd, Nat.reduceEqDiff, Nat.reduceLeDiff, Nat.reduceLT, Nat.reduceMul, Int.reduceLE, Int.reduceLT, Int.reduceEq, Int.reduceNe, wk4, laidS, keepS, hb]) | (refine r_casesN (fun hp hb => ?_) (fun hp hb => ?_) <;> simp only [↓wt, wu, wk0, wk1, wk2, wk3, Nat.reduceAdd, Nat.reduceEqDiff, Nat.reduceLeDiff, Nat.reduceLT, Nat.reduceMul, Int.reduceLE, Int.reduceLT, Int.reduceEq, Int.reduceNe, wk4, laidS, keepS, hb]) | (refine r_casesM (fun hp hb => ?_) (fun hp hb => ?_) <;> simp only [↓wt, wu, wk0, wk1, wk2, wk3, Nat.reduceAdd, Nat.reduceEqDiff, Nat.reduceLeDiff, Nat.reduceLT, Nat.reduceMul, Int.reduceLE, Int.reduceLT, Int.reduceEq, Int.reduceNe, wk4, laidS, keepS, hb]) | (refine r_casesB (fun hp hb => ?_) (fun hp hb => ?_) <;> simp only [↓wt, wu, wk0, wk1, wk2, wk3, Nat.reduceAdd, Nat.reduceEqDiff, Nat.reduceLeDiff, Nat.reduceLT, Nat.reduceMul, Int.reduceLE, Int.reduceLT, Int.reduceEq, Int.reduceNe, wk4, laidS, keepS, hb]) | (refine r_gcasesD (fun hp hb => ?_) (fun hp hb => ?_) <;> simp only [↓wt, wu, wk0, wk1, wk2, wk3, Nat.reduceAdd, Nat.reduceEqDiff, Nat.reduceLeDiff, Nat.reduceLT, Nat.reduceMul, Int.reduceLE, Int.reduceLT, Int.reduceEq, Int.reduceNe, wk4, laidS, keepS, hb]) | (refine r_gcasesN (fun hp hb => ?_) (fun hp hb => ?_) <;> simp only [↓wt, wu, wk0, wk1, wk2, wk3, Nat.reduceAdd, Nat.reduceEqDiff, Nat.reduceLeDiff, Nat.reduceLT, Nat.reduceMul, Int.reduceLE, Int.reduceLT, Int.reduceEq, Int.reduceNe, wk4, laidS, keepS, hb]) | (refine r_gcasesM (fun hp hb => ?_) (fun hp hb => ?_) <;> simp only [↓wt, wu, wk0, wk1, wk2, wk3, Nat.reduceAdd, Nat.reduceEqDiff, Nat.reduceLeDiff, Nat.reduceLT, Nat.reduceMul, Int.reduceLE, Int.reduceLT, Int.reduceEq, Int.reduceNe, wk4, laidS, keepS, hb]) | (refine r_gcasesB (fun hp hb => ?_) (fun hp hb => ?_) <;> simp only [↓wt, wu, wk0, wk1, wk2, wk3, Nat.reduceAdd, Nat.reduceEqDiff, Nat.reduceLeDiff, Nat.reduceLT, Nat.reduceMul, Int.reduceLE, Int.reduceLT, Int.reduceEq, Int.reduceNe, wk4, laidS, keepS, hb]) | ((with_reducible refine And.intro ?_ ?_); omega) | fail)
    · have h3 : k < js.length := by omega
      have hjk : js.getD k 0 < cs.length := hj _ (by rw [List.getD_eq_getElem?_getD, List.getElem?_eq_getElem h3]; exact List.getElem_mem h3)
      simp only [↓wt, wu, wk0, wk1, wk2, wk3, Nat.reduceAdd, Nat.reduceEqDiff, Nat.reduceLeDiff, Nat.reduceLT, Nat.reduceMul, Int.reduceLE, Int.reduceLT, Int.reduceEq, Int.reduceNe, wk4, laidS, keepS, elem_ptr, ptr_eq]
      repeat (refine And.intro (by omega) ?_)
      refine icall_lend [0] [RdB (stN k s)] (mlnum_call (stN k s) (by omega)) (by decide) ⟨⟨rfl, hd_Rd⟩, trivial⟩ ⟨.inl ⟨rfl, show 0 < 1 by decide⟩, trivial⟩ (.c _) ⟨hd_Rd, trivial⟩ ?_
      simp only [↓wt, wu, wk0, wk1, wk2, wk3, Nat.reduceAdd, Nat.reduceEqDiff, Nat.reduceLeDiff, Nat.reduceLT, Nat.reduceMul, Int.reduceLE, Int.reduceLT, Int.reduceEq, Int.reduceNe, wk4, laidS, keepS, RdB, Bs, Cell, rnI, nblt, rn0, rnC, rnE, rnR, rnB, putAll, Nat.reduceSub, Nat.sub_zero, Nat.not_lt_zero, Nat.zero_sub, Nat.sub_self, rn_I, rn_B]
      refine ⟨by omega, hwc, k + 1, by omega, by omega, ?_⟩
      have hw2 := wr_under (js.take (k + 1)) s cs hu
      rw [wr_step h3] at hw2
      have hg := underL_g hw2
      simp only [↓wt, wu, wk0, wk1, wk2, wk3, wkf, Nat.reduceAdd, Nat.reduceEqDiff, Nat.reduceLeDiff, Nat.reduceLT, Nat.reduceMul, Int.reduceLE, Int.reduceLT, Int.reduceEq, Int.reduceNe, wk4, laidS, keepS, e3, stN_succ, underL_ptr]
      rw [wr_step h3]
      exact ⟨rfl, hw2⟩
    · have hk2 : k = js.length := by omega
      subst hk2
      simp only [↓wt, wu, wk0, wk1, wk2, wk3, Nat.reduceAdd, Nat.reduceEqDiff, Nat.reduceLeDiff, Nat.reduceLT, Nat.reduceMul, Int.reduceLE, Int.reduceLT, Int.reduceEq, Int.reduceNe, wk4, laidS, keepS, Try.results15, RdB, List.take_length]
set_option maxHeartbeats 2000000 in
theorem wide_call (js : List Nat) (s : RdT) (T : TypeId) (cs : List AV) (hl : s.1.length ≤ 1000000000) (hj : ∀ j ∈ js, j < cs.length) (hc : ∀ a ∈ cs, Cell a) (hu : ∀ a ∈ cs, Under 3 a) (hk : js.length ≤ 100) :
    ICall Try.prog 16 [.p 0 0 0 1, .s 2 0 js.length] (FillN js s T cs 52 0) (fun a M' => a = .t [] ∧ M' = FillN js s T cs 52 js.length) := by
  refine icall_body tabOk Try.func16 rfl rfl (by rw [Try.ntmps16]; simp) (aw_sound tabOk _ _ _ ?_)
  simp only [Try.ntmps16]
  simp only [↓wt, wu, wk0, wk1, wk2, wk3, Nat.reduceAdd, Nat.reduceEqDiff, Nat.reduceLeDiff, Nat.reduceLT, Nat.reduceMul, Int.reduceLE, Int.reduceLT, Int.reduceEq, Int.reduceNe, wk4, laidS, keepS, FillN]
  refine loop_ruleM tabOk [0, 6, 7] (fun k : Nat => [(8, .c (.int .i64 k))]) (fun k => FillN js s T cs 52 k) (fun k => k ≤ js.length) (fun k => js.length - k) 0 (by omega) (fun _ => rfl) ?_ ?_
  · simp only [↓wt, wu, wk0, wk1, wk2, wk3, wkf, Nat.reduceAdd, Nat.reduceEqDiff, Nat.reduceLeDiff, Nat.reduceLT, Nat.reduceMul, Int.reduceLE, Int.reduceLT, Int.reduceEq, Int.reduceNe, wk4, laidS, keepS, FillN, underL_ptr]
    exact ⟨under_Rd, hu⟩
  · intro k h1
    have e3 := wi_succ (k := k) (by omega)
    have hs := stN_len k s
    have hwl := wr_len (js.take k) s cs fun j h => hj j (List.mem_of_mem_take h)
    have hwc := wr_cell (js.take k) s cs hc
    simp only [↓wt, wu, wk0, wk1, wk2, wk3, Nat.reduceAdd, Nat.reduceEqDiff, Nat.reduceLeDiff, Nat.reduceLT, Nat.reduceMul, Int.reduceLE, Int.reduceLT, Int.reduceEq, Int.reduceNe, wk4, laidS, keepS, FillN]
    repeat' (first | (refine r_casesD (fun hp hb => ?_) (fun hp hb => ?_) <;> simp only [↓wt, wu, wk0, wk1, wk2, wk3, Nat.reduceAdd, Nat.reduceEqDiff, Nat.reduceLeDiff, Nat.reduceLT, Nat.reduceMul, Int.reduceLE, Int.reduceLT, Int.reduceEq, Int.reduceNe, wk4, laidS, keepS, hb]) | (refine r_casesN (fun hp hb => ?_) (fun hp hb => ?_) <;> simp only [↓wt, wu, wk0, wk1, wk2, wk3, Nat.reduceAdd, Nat.reduceEqDiff, Nat.reduceLeDiff, Nat.reduceLT, Nat.reduceMul, Int.reduceLE, Int.reduceLT, Int.reduceEq, Int.reduceNe, wk4, laidS, keepS, hb]) | (refine r_casesM (fun hp hb => ?_) (fun hp hb => ?_) <;> simp only [↓wt, wu, wk0, wk1, wk2, wk3, Nat.reduceAdd, Nat.reduceEqDiff, Nat.reduceLeDiff, Nat.reduceLT, Nat.reduceMul, Int.reduceLE, Int.reduceLT, Int.reduceEq, Int.reduceNe, wk4, laidS, keepS, hb]) | (refine r_casesB (fun hp hb => ?_) (fun hp hb => ?_) <;> simp only [↓wt, wu, wk0, wk1, wk2, wk3, Nat.reduceAdd, Nat.reduceEqDiff, Nat.reduceLeDiff, Nat.reduceLT, Nat.reduceMul, Int.reduceLE, Int.reduceLT, Int.reduceEq, Int.reduceNe, wk4, laidS, keepS, hb]) | (refine r_gcasesD (fun hp hb => ?_) (fun hp hb => ?_) <;> simp only [↓wt, wu, wk0, wk1, wk2, wk3, Nat.reduceAdd, Nat.reduceEqDiff, Nat.reduceLeDiff, Nat.reduceLT, Nat.reduceMul, Int.reduceLE, Int.reduceLT, Int.reduceEq, Int.reduceNe, wk4, laidS, keepS, hb]) | (refine r_gcasesN (fun hp hb => ?_) (fun hp hb => ?_) <;> simp only [↓wt, wu, wk0, wk1, wk2, wk3, Nat.reduceAdd, Nat.reduceEqDiff, Nat.reduceLeDiff, Nat.reduceLT, Nat.reduceMul, Int.reduceLE, Int.reduceLT, Int.reduceEq, Int.reduceNe, wk4, laidS, keepS, hb]) | (refine r_gcasesM (fun hp hb => ?_) (fun hp hb => ?_) <;> simp only [↓wt, wu, wk0, wk1, wk2, wk3, Nat.reduceAdd, Nat.reduceEqDiff, Nat.reduceLeDiff, Nat.reduceLT, Nat.reduceMul, Int.reduceLE, Int.reduceLT, Int.reduceEq, Int.reduceNe, wk4, laidS, keepS, hb]) | (refine r_gcasesB (fun hp hb => ?_) (fun hp hb => ?_) <;> simp only [↓wt, wu, wk0, wk1, wk2, wk3, Nat.reduceAdd, Nat.reduceEqDiff, Nat.reduceLeDiff, Nat.reduceLT, Nat.reduceMul, Int.reduceLE, Int.reduceLT, Int.reduceEq, Int.reduceNe, wk4, laidS, keepS, hb]) | ((with_reducible refine And.intro ?_ ?_); omega) | fail)
    · have h3 : k < js.length := by omega
      have hjk : js.getD k 0 < cs.length := hj _ (by rw [List.getD_eq_getElem?_getD, List.getElem?_eq_getElem h3]; exact List.getElem_mem h3)
      simp only [↓wt, wu, wk0, wk1, wk2, wk3, Nat.reduceAdd, Nat.reduceEqDiff, Nat.reduceLeDiff, Nat.reduceLT, Nat.reduceMul, Int.reduceLE, Int.reduceLT, Int.reduceEq, Int.reduceNe, wk4, laidS, keepS, elem_ptr, ptr_eq]
      repeat (refine And.intro (by omega) ?_)
      refine icall_lend [0] [RdB (stN k s)] (mlnum_call (stN k s) (by omega)) (by decide) ⟨⟨rfl, hd_Rd⟩, trivial⟩ ⟨.inl ⟨rfl, show 0 < 1 by decide⟩, trivial⟩ (.c _) ⟨hd_Rd, trivial⟩ ?_
      simp only [↓wt, wu, wk0, wk1, wk2, wk3, Nat.reduceAdd, Nat.reduceEqDiff, Nat.reduceLeDiff, Nat.reduceLT, Nat.reduceMul, Int.reduceLE, Int.reduceLT, Int.reduceEq, Int.reduceNe, wk4, laidS, keepS, RdB, Bs, Cell, rnI, nblt, rn0, rnC, rnE, rnR, rnB, putAll, Nat.reduceSub, Nat.sub_zero, Nat.not_lt_zero, Nat.zero_sub, Nat.sub_self, rn_I, rn_B]
      refine ⟨by omega, hwc, k + 1, by omega, by omega, ?_⟩
      have hw2 := wr_under (js.take (k + 1)) s cs hu
      rw [wr_step h3] at hw2
      have hg := underL_g hw2
      simp only [↓wt, wu, wk0, wk1, wk2, wk3, wkf, Nat.reduceAdd, Nat.reduceEqDiff, Nat.reduceLeDiff, Nat.reduceLT, Nat.reduceMul, Int.reduceLE, Int.reduceLT, Int.reduceEq, Int.reduceNe, wk4, laidS, keepS, e3, stN_succ, underL_ptr]
      rw [wr_step h3]
      exact ⟨rfl, hw2⟩
    · have hk2 : k = js.length := by omega
      subst hk2
      simp only [↓wt, wu, wk0, wk1, wk2, wk3, Nat.reduceAdd, Nat.reduceEqDiff, Nat.reduceLeDiff, Nat.reduceLT, Nat.reduceMul, Int.reduceLE, Int.reduceLT, Int.reduceEq, Int.reduceNe, wk4, laidS, keepS, Try.results16, RdB, List.take_length]
end Go.Ab

set_option linter.unusedSimpArgs false
set_option linter.unusedVariables false
set_option linter.constructorNameAsVariable false
set_option maxRecDepth 100000
namespace Go.Ab
open Go Go.Proofs Go.RowKit

def TakeV (p : List RowD × List UInt8 × Bool) : AV := .t [BooksV p.1, Bs p.2.1, .c (.bool p.2.2)]
theorem exp_takeN {M : Mem} {p : List RowD × List UInt8 × Bool} (h : p = ([], [], false)) : Exp M (.t [.c (.slice none 0 0), .c (.slice none 0 0), .c (.bool false)]) (TakeV p) := by
  subst h; exact exp_take0
theorem exp_takeY {M : Mem} {p : List RowD × List UInt8 × Bool} {l : List RowD} {r : List UInt8} (h : p = (l, r, true)) : Exp M (.t [.l 3 (l.map RowV), .l 1 (r.map encB), .c (.bool true)]) (TakeV p) := by
  subst h; exact exp_tA (xT_cons (xA_pure weak_l (.l _ _ (pureR _))) (xT_cons xA_Bs (xT_cons xA_c xT_nil)))
theorem okR_manyR {l : List RowD} {b : List UInt8} {v : Value} : OkR (Under 0) (.t [BooksV l, Bs b, .c v]) := ⟨.l _ _ (pureR _), okR_Bs, .c _, trivial⟩
theorem arg_fc {M : Mem} {ids : List Nat} {fn : FuncId} {c : Conf} : VOkA M (.f fn [.e [.c (.int .i64 c.n), .c (.int .i64 c.q), .c (.int .i64 c.r), .c (.int .i64 c.p), .c (.int .i64 c.k), .c (.int .i64 c.c)]]) ∧ (∀ k ∈ idsA (.f fn [.e [.c (.int .i64 c.n), .c (.int .i64 c.q), .c (.int .i64 c.r), .c (.int .i64 c.p), .c (.int .i64 c.k), .c (.int .i64 c.c)]]), k ∈ ids) ∧ Weak (viewA M (.f fn [.e [.c (.int .i64 c.n), .c (.int .i64 c.q), .c (.int .i64 c.r), .c (.int .i64 c.p), .c (.int .i64 c.k), .c (.int .i64 c.c)]])) (.f fn [.e [.c (.int .i64 c.n), .c (.int .i64 c.q), .c (.int .i64 c.r), .c (.int .i64 c.p), .c (.int .i64 c.k), .c (.int .i64 c.c)]]) ∧ Under 0 (.f fn [.e [.c (.int .i64 c.n), .c (.int .i64 c.q), .c (.int .i64 c.r), .c (.int .i64 c.p), .c (.int .i64 c.k), .c (.int .i64 c.c)]]) :=
  arg_fe fun a ha => by rw [List.mem_singleton.1 ha, under_e]; simp only [under_c, List.mem_cons, List.not_mem_nil, or_false, forall_eq_or_imp, forall_eq, and_self]
theorem ptake_call (c : Conf) (b : List UInt8) (hl : b.length ≤ 1000000000) : PCall Try.prog 32 [ConfA c, Bs b] (TakeV (takeB M63 c b)) := by
  refine pcall_bodyA tabOk Try.func32 rfl rfl (by rw [Try.ntmps32]; simp) ?_
  simp only [Try.ntmps32, Bs, ConfA]
  refine acode_sw tabOk ?_
  simp only [↓wt, wu, wk0, wk1, wk2, wk3, Nat.reduceAdd, Nat.reduceEqDiff, Nat.reduceLeDiff, Nat.reduceLT, Nat.reduceMul, Int.reduceLE, Int.reduceLT, Int.reduceEq, Int.reduceNe, wk4, laidS, keepS]
  refine .done ?_
  simp only [↓wt, wu, wk0, wk1, wk2, wk3, Nat.reduceAdd, Nat.reduceEqDiff, Nat.reduceLeDiff, Nat.reduceLT, Nat.reduceMul, Int.reduceLE, Int.reduceLT, Int.reduceEq, Int.reduceNe, wk4, laidS, keepS]
  refine acode_sw tabOk ?_
  simp only [↓wt, wu, wk0, wk1, wk2, wk3, Nat.reduceAdd, Nat.reduceEqDiff, Nat.reduceLeDiff, Nat.reduceLT, Nat.reduceMul, Int.reduceLE, Int.reduceLT, Int.reduceEq, Int.reduceNe, wk4, laidS, keepS]
  refine icall_drop [] (rtmay_call c) ⟨arg_conf', trivial⟩ (.c _) ?_
  simp only [↓wt, wu, wk0, wk1, wk2, wk3, Nat.reduceAdd, Nat.reduceEqDiff, Nat.reduceLeDiff, Nat.reduceLT, Nat.reduceMul, Int.reduceLE, Int.reduceLT, Int.reduceEq, Int.reduceNe, wk4, laidS, keepS]
  refine r_casesN (fun hp hb => ?_) (fun hp hb => ?_) <;> simp only [↓wt, wu, wk0, wk1, wk2, wk3, Nat.reduceAdd, Nat.reduceEqDiff, Nat.reduceLeDiff, Nat.reduceLT, Nat.reduceMul, Int.reduceLE, Int.reduceLT, Int.reduceEq, Int.reduceNe, wk4, laidS, keepS, hb]
  rotate_left
  · simp only [↓wt, wu, wk0, wk1, wk2, wk3, Nat.reduceAdd, Nat.reduceEqDiff, Nat.reduceLeDiff, Nat.reduceLT, Nat.reduceMul, Int.reduceLE, Int.reduceLT, Int.reduceEq, Int.reduceNe, wk4, laidS, keepS, Try.results32]
    exact exp_takeN (by rw [takeB, if_neg fun h => hp h.1])
  have hn := hp.1
  refine .step 0 [1, 2, 9] (by simp only [↓wt, wu, wk0, wk1, wk2, wk3, Nat.reduceAdd, Nat.reduceEqDiff, Nat.reduceLeDiff, Nat.reduceLT, Nat.reduceMul, Int.reduceLE, Int.reduceLT, Int.reduceEq, Int.reduceNe, wk4, laidS, keepS]; (try (repeat' (first | (exact fun _ => by simp only [pureL_eq, underL_cons, underL_nil, AV.cells, under_l, under_c, under_g, under_e, under_f, underL_B, underL_I, underL_Bs, under_Bs, List.mem_cons, List.not_mem_nil, or_false, forall_eq_or_imp, forall_eq, and_self, and_true, true_and]) | ((with_reducible refine And.intro ?_ ?_)) | (intro _) | omega | (simp only [pureL_eq, underL_cons, underL_nil, AV.cells, under_l, under_c, under_g, under_e, under_f, underL_B, underL_I, underL_Bs, under_Bs, List.mem_cons, List.not_mem_nil, or_false, forall_eq_or_imp, forall_eq, and_self, and_true, true_and])))); done) (by simp only [↓wt, wu, wk0, wk1, wk2, wk3, Nat.reduceAdd, Nat.reduceEqDiff, Nat.reduceLeDiff, Nat.reduceLT, Nat.reduceMul, Int.reduceLE, Int.reduceLT, Int.reduceEq, Int.reduceNe, wk4, laidS, keepS]; (try (repeat' (first | (exact fun _ => by simp only [pureL_eq, underL_cons, underL_nil, AV.cells, under_l, under_c, under_g, under_e, under_f, underL_B, underL_I, underL_Bs, under_Bs, List.mem_cons, List.not_mem_nil, or_false, forall_eq_or_imp, forall_eq, and_self, and_true, true_and]) | ((with_reducible refine And.intro ?_ ?_)) | (intro _) | omega | (simp only [pureL_eq, underL_cons, underL_nil, AV.cells, under_l, under_c, under_g, under_e, under_f, underL_B, underL_I, underL_Bs, under_Bs, List.mem_cons, List.not_mem_nil, or_false, forall_eq_or_imp, forall_eq, and_self, and_true, true_and])))); done) ?_; refine .done ?_; simp only [↓wt, wu, wk0, wk1, wk2, wk3, Nat.reduceAdd, Nat.reduceEqDiff, Nat.reduceLeDiff, Nat.reduceLT, Nat.reduceMul, Int.reduceLE, Int.reduceLT, Int.reduceEq, Int.reduceNe, wk4, laidS, keepS]
  refine aw_sound tabOk _ _ _ ?_
  simp only [↓wt, wu, wk0, wk1, wk2, wk3, Nat.reduceAdd, Nat.reduceEqDiff, Nat.reduceLeDiff, Nat.reduceLT, Nat.reduceMul, Int.reduceLE, Int.reduceLT, Int.reduceEq, Int.reduceNe, wk4, laidS, keepS]
  refine icall_drop [] (manyR_call c b hl hn) ⟨arg_l (pureB _), arg_c, arg_fc, trivial⟩ okR_manyR ?_
  simp only [↓wt, wu, wk0, wk1, wk2, wk3, Nat.reduceAdd, Nat.reduceEqDiff, Nat.reduceLeDiff, Nat.reduceLT, Nat.reduceMul, Int.reduceLE, Int.reduceLT, Int.reduceEq, Int.reduceNe, wk4, laidS, keepS, Bs, BooksV]
  repeat' (first | (refine r_casesD (fun hp hb => ?_) (fun hp hb => ?_) <;> simp only [↓wt, wu, wk0, wk1, wk2, wk3, Nat.reduceAdd, Nat.reduceEqDiff, Nat.reduceLeDiff, Nat.reduceLT, Nat.reduceMul, Int.reduceLE, Int.reduceLT, Int.reduceEq, Int.reduceNe, wk4, laidS, keepS, Try.results32, hb]) | (refine r_casesN (fun hp hb => ?_) (fun hp hb => ?_) <;> simp only [↓wt, wu, wk0, wk1, wk2, wk3, Nat.reduceAdd, Nat.reduceEqDiff, Nat.reduceLeDiff, Nat.reduceLT, Nat.reduceMul, Int.reduceLE, Int.reduceLT, Int.reduceEq, Int.reduceNe, wk4, laidS, keepS, Try.results32, hb]) | (refine r_casesM (fun hp hb => ?_) (fun hp hb => ?_) <;> simp only [↓wt, wu, wk0, wk1, wk2, wk3, Nat.reduceAdd, Nat.reduceEqDiff, Nat.reduceLeDiff, Nat.reduceLT, Nat.reduceMul, Int.reduceLE, Int.reduceLT, Int.reduceEq, Int.reduceNe, wk4, laidS, keepS, Try.results32, hb]) | (refine r_casesB (fun hp hb => ?_) (fun hp hb => ?_) <;> simp only [↓wt, wu, wk0, wk1, wk2, wk3, Nat.reduceAdd, Nat.reduceEqDiff, Nat.reduceLeDiff, Nat.reduceLT, Nat.reduceMul, Int.reduceLE, Int.reduceLT, Int.reduceEq, Int.reduceNe, wk4, laidS, keepS, Try.results32, hb]) | (refine r_gcasesD (fun hp hb => ?_) (fun hp hb => ?_) <;> simp only [↓wt, wu, wk0, wk1, wk2, wk3, Nat.reduceAdd, Nat.reduceEqDiff, Nat.reduceLeDiff, Nat.reduceLT, Nat.reduceMul, Int.reduceLE, Int.reduceLT, Int.reduceEq, Int.reduceNe, wk4, laidS, keepS, Try.results32, hb]) | (refine r_gcasesN (fun hp hb => ?_) (fun hp hb => ?_) <;> simp only [↓wt, wu, wk0, wk1, wk2, wk3, Nat.reduceAdd, Nat.reduceEqDiff, Nat.reduceLeDiff, Nat.reduceLT, Nat.reduceMul, Int.reduceLE, Int.reduceLT, Int.reduceEq, Int.reduceNe, wk4, laidS, keepS, Try.results32, hb]) | (refine r_gcasesM (fun hp hb => ?_) (fun hp hb => ?_) <;> simp only [↓wt, wu, wk0, wk1, wk2, wk3, Nat.reduceAdd, Nat.reduceEqDiff, Nat.reduceLeDiff, Nat.reduceLT, Nat.reduceMul, Int.reduceLE, Int.reduceLT, Int.reduceEq, Int.reduceNe, wk4, laidS, keepS, Try.results32, hb]) | (refine r_gcasesB (fun hp hb => ?_) (fun hp hb => ?_) <;> simp only [↓wt, wu, wk0, wk1, wk2, wk3, Nat.reduceAdd, Nat.reduceEqDiff, Nat.reduceLeDiff, Nat.reduceLT, Nat.reduceMul, Int.reduceLE, Int.reduceLT, Int.reduceEq, Int.reduceNe, wk4, laidS, keepS, Try.results32, hb]) | ((with_reducible refine And.intro ?_ ?_); omega) | fail)
  rotate_left
  · exact exp_takeN (by rw [takeB, if_neg fun h => hp h.2.1])
  have hls := takeB_lens (c := c) (b := b) (m := c.n.toNat) (n := c.n.toNat) (Nat.le_refl M63) (by omega) (by omega)
  refine icall_drop [] (right_call c _ hls) ⟨arg_conf', arg_books, trivial⟩ (.c _) ?_
  simp only [↓wt, wu, wk0, wk1, wk2, wk3, Nat.reduceAdd, Nat.reduceEqDiff, Nat.reduceLeDiff, Nat.reduceLT, Nat.reduceMul, Int.reduceLE, Int.reduceLT, Int.reduceEq, Int.reduceNe, wk4, laidS, keepS]
  repeat' (first | (refine r_casesD (fun hp hb => ?_) (fun hp hb => ?_) <;> simp only [↓wt, wu, wk0, wk1, wk2, wk3, Nat.reduceAdd, Nat.reduceEqDiff, Nat.reduceLeDiff, Nat.reduceLT, Nat.reduceMul, Int.reduceLE, Int.reduceLT, Int.reduceEq, Int.reduceNe, wk4, laidS, keepS, Try.results32, hb]) | (refine r_casesN (fun hp hb => ?_) (fun hp hb => ?_) <;> simp only [↓wt, wu, wk0, wk1, wk2, wk3, Nat.reduceAdd, Nat.reduceEqDiff, Nat.reduceLeDiff, Nat.reduceLT, Nat.reduceMul, Int.reduceLE, Int.reduceLT, Int.reduceEq, Int.reduceNe, wk4, laidS, keepS, Try.results32, hb]) | (refine r_casesM (fun hp hb => ?_) (fun hp hb => ?_) <;> simp only [↓wt, wu, wk0, wk1, wk2, wk3, Nat.reduceAdd, Nat.reduceEqDiff, Nat.reduceLeDiff, Nat.reduceLT, Nat.reduceMul, Int.reduceLE, Int.reduceLT, Int.reduceEq, Int.reduceNe, wk4, laidS, keepS, Try.results32, hb]) | (refine r_casesB (fun hp hb => ?_) (fun hp hb => ?_) <;> simp only [↓wt, wu, wk0, wk1, wk2, wk3, Nat.reduceAdd, Nat.reduceEqDiff, Nat.reduceLeDiff, Nat.reduceLT, Nat.reduceMul, Int.reduceLE, Int.reduceLT, Int.reduceEq, Int.reduceNe, wk4, laidS, keepS, Try.results32, hb]) | (refine r_gcasesD (fun hp hb => ?_) (fun hp hb => ?_) <;> simp only [↓wt, wu, wk0, wk1, wk2, wk3, Nat.reduceAdd, Nat.reduceEqDiff, Nat.reduceLeDiff, Nat.reduceLT, Nat.reduceMul, Int.reduceLE, Int.reduceLT, Int.reduceEq, Int.reduceNe, wk4, laidS, keepS, Try.results32, hb]) | (refine r_gcasesN (fun hp hb => ?_) (fun hp hb => ?_) <;> simp only [↓wt, wu, wk0, wk1, wk2, wk3, Nat.reduceAdd, Nat.reduceEqDiff, Nat.reduceLeDiff, Nat.reduceLT, Nat.reduceMul, Int.reduceLE, Int.reduceLT, Int.reduceEq, Int.reduceNe, wk4, laidS, keepS, Try.results32, hb]) | (refine r_gcasesM (fun hp hb => ?_) (fun hp hb => ?_) <;> simp only [↓wt, wu, wk0, wk1, wk2, wk3, Nat.reduceAdd, Nat.reduceEqDiff, Nat.reduceLeDiff, Nat.reduceLT, Nat.reduceMul, Int.reduceLE, Int.reduceLT, Int.reduceEq, Int.reduceNe, wk4, laidS, keepS, Try.results32, hb]) | (refine r_gcasesB (fun hp hb => ?_) (fun hp hb => ?_) <;> simp only [↓wt, wu, wk0, wk1, wk2, wk3, Nat.reduceAdd, Nat.reduceEqDiff, Nat.reduceLeDiff, Nat.reduceLT, Nat.reduceMul, Int.reduceLE, Int.reduceLT, Int.reduceEq, Int.reduceNe, wk4, laidS, keepS, Try.results32, hb]) | ((with_reducible refine And.intro ?_ ?_); omega) | fail)
  · exact exp_takeY (by rw [takeB, if_pos ⟨by assumption, by assumption, by assumption⟩])
  · exact exp_takeN (by rw [takeB, if_neg fun h => hp h.2.2])
abbrev M62 : Nat := 4611686018427387905
set_option maxHeartbeats 4000000 in
theorem rptake_call (c : Conf) (b : List UInt8) (hl : b.length ≤ 1000000000) : PCall Try.prog 20 [ConfA c, Bs b] (TakeV (takeB M62 c b)) := by
  refine pcall_bodyA tabOk Try.func20 rfl rfl (by rw [Try.ntmps20]; simp) ?_
  simp only [Try.ntmps20, Bs, ConfA]
  refine acode_sw tabOk ?_
  simp only [↓wt, wu, wk0, wk1, wk2, wk3, Nat.reduceAdd, Nat.reduceEqDiff, Nat.reduceLeDiff, Nat.reduceLT, Nat.reduceMul, Int.reduceLE, Int.reduceLT, Int.reduceEq, Int.reduceNe, wk4, laidS, keepS]
  refine .done ?_
  simp only [↓wt, wu, wk0, wk1, wk2, wk3, Nat.reduceAdd, Nat.reduceEqDiff, Nat.reduceLeDiff, Nat.reduceLT, Nat.reduceMul, Int.reduceLE, Int.reduceLT, Int.reduceEq, Int.reduceNe, wk4, laidS, keepS]
  refine acode_sw tabOk ?_
  simp only [↓wt, wu, wk0, wk1, wk2, wk3, Nat.reduceAdd, Nat.reduceEqDiff, Nat.reduceLeDiff, Nat.reduceLT, Nat.reduceMul, Int.reduceLE, Int.reduceLT, Int.reduceEq, Int.reduceNe, wk4, laidS, keepS]
  refine icall_drop [] (rrtmay_call c) ⟨arg_conf', trivial⟩ (.c _) ?_
  simp only [↓wt, wu, wk0, wk1, wk2, wk3, Nat.reduceAdd, Nat.reduceEqDiff, Nat.reduceLeDiff, Nat.reduceLT, Nat.reduceMul, Int.reduceLE, Int.reduceLT, Int.reduceEq, Int.reduceNe, wk4, laidS, keepS]
  refine r_casesN (fun hp hb => ?_) (fun hp hb => ?_) <;> simp only [↓wt, wu, wk0, wk1, wk2, wk3, Nat.reduceAdd, Nat.reduceEqDiff, Nat.reduceLeDiff, Nat.reduceLT, Nat.reduceMul, Int.reduceLE, Int.reduceLT, Int.reduceEq, Int.reduceNe, wk4, laidS, keepS, hb]
  rotate_left
  · simp only [↓wt, wu, wk0, wk1, wk2, wk3, Nat.reduceAdd, Nat.reduceEqDiff, Nat.reduceLeDiff, Nat.reduceLT, Nat.reduceMul, Int.reduceLE, Int.reduceLT, Int.reduceEq, Int.reduceNe, wk4, laidS, keepS, Try.results20]
    exact exp_takeN (by rw [takeB, if_neg fun h => hp h.1])
  have hn := hp.1
  obtain ⟨n, hcn⟩ : ∃ n : Nat, c.n = n := ⟨c.n.toNat, by omega⟩
  have hM : M62 = 4611686018427387905 := rfl
  have hnt : c.n.toNat = n := by omega
  have e2 : IntKind.i64.wrap (c.n + 2) = ((n + 2 : Nat) : Int) := by rw [wrap_i64 (by omega) (by omega)]; omega
  refine .step 0 [1, 2, 16] (by simp only [↓wt, wu, wk0, wk1, wk2, wk3, Nat.reduceAdd, Nat.reduceEqDiff, Nat.reduceLeDiff, Nat.reduceLT, Nat.reduceMul, Int.reduceLE, Int.reduceLT, Int.reduceEq, Int.reduceNe, wk4, laidS, keepS]; (try (repeat' (first | (exact fun _ => by simp only [pureL_eq, underL_cons, underL_nil, AV.cells, under_l, under_c, under_g, under_e, under_f, underL_B, underL_I, underL_Bs, under_Bs, List.mem_cons, List.not_mem_nil, or_false, forall_eq_or_imp, forall_eq, and_self, and_true, true_and]) | ((with_reducible refine And.intro ?_ ?_)) | (intro _) | omega | (simp only [pureL_eq, underL_cons, underL_nil, AV.cells, under_l, under_c, under_g, under_e, under_f, underL_B, underL_I, underL_Bs, under_Bs, List.mem_cons, List.not_mem_nil, or_false, forall_eq_or_imp, forall_eq, and_self, and_true, true_and])))); done) (by simp only [↓wt, wu, wk0, wk1, wk2, wk3, Nat.reduceAdd, Nat.reduceEqDiff, Nat.reduceLeDiff, Nat.reduceLT, Nat.reduceMul, Int.reduceLE, Int.reduceLT, Int.reduceEq, Int.reduceNe, wk4, laidS, keepS]; (try (repeat' (first | (exact fun _ => by simp only [pureL_eq, underL_cons, underL_nil, AV.cells, under_l, under_c, under_g, under_e, under_f, underL_B, underL_I, underL_Bs, under_Bs, List.mem_cons, List.not_mem_nil, or_false, forall_eq_or_imp, forall_eq, and_self, and_true, true_and]) | ((with_reducible refine And.intro ?_ ?_)) | (intro _) | omega | (simp only [pureL_eq, underL_cons, underL_nil, AV.cells, under_l, under_c, under_g, under_e, under_f, underL_B, underL_I, underL_Bs, under_Bs, List.mem_cons, List.not_mem_nil, or_false, forall_eq_or_imp, forall_eq, and_self, and_true, true_and])))); done) ?_; refine .done ?_; simp only [↓wt, wu, wk0, wk1, wk2, wk3, Nat.reduceAdd, Nat.reduceEqDiff, Nat.reduceLeDiff, Nat.reduceLT, Nat.reduceMul, Int.reduceLE, Int.reduceLT, Int.reduceEq, Int.reduceNe, wk4, laidS, keepS]
  refine acode_sw tabOk ?_
  simp only [↓wt, wu, wk0, wk1, wk2, wk3, Nat.reduceAdd, Nat.reduceEqDiff, Nat.reduceLeDiff, Nat.reduceLT, Nat.reduceMul, Int.reduceLE, Int.reduceLT, Int.reduceEq, Int.reduceNe, wk4, laidS, keepS]
  refine .done ?_
  simp only [↓wt, wu, wk0, wk1, wk2, wk3, Nat.reduceAdd, Nat.reduceEqDiff, Nat.reduceLeDiff, Nat.reduceLT, Nat.reduceMul, Int.reduceLE, Int.reduceLT, Int.reduceEq, Int.reduceNe, wk4, laidS, keepS]
  refine acode_sw tabOk ?_
  simp only [↓wt, wu, wk0, wk1, wk2, wk3, Nat.reduceAdd, Nat.reduceEqDiff, Nat.reduceLeDiff, Nat.reduceLT, Nat.reduceMul, Int.reduceLE, Int.reduceLT, Int.reduceEq, Int.reduceNe, wk4, laidS, keepS]
  refine adopt_rule 7 60 3 rfl ?_
  simp only [↓wt, wu, wk0, wk1, wk2, wk3, Nat.reduceAdd, Nat.reduceEqDiff, Nat.reduceLeDiff, Nat.reduceLT, Nat.reduceMul, Int.reduceLE, Int.reduceLT, Int.reduceEq, Int.reduceNe, wk4, laidS, keepS]
  refine loop_ruleM tabOk [2] (fun x : List RowD × List UInt8 => [(1, Bs x.2), (7, .s 1 0 x.1.length), (8, .c (.int .i64 x.1.length))]) (fun x => ⟨[(1, ⟨60, 3, x.1.map RowV⟩)], 2⟩) (fun x => Tk (rowT M62 n) b x.1 x.2 ∧ x.1.length ≤ n) (fun x => n - x.1.length) ([], b) ⟨.nil, by simp⟩ (fun _ => rfl) ?_ ?_
  · simp only [↓wt, wu, wk0, wk1, wk2, wk3, wkf, Nat.reduceAdd, Nat.reduceEqDiff, Nat.reduceLeDiff, Nat.reduceLT, Nat.reduceMul, Int.reduceLE, Int.reduceLT, Int.reduceEq, Int.reduceNe, wk4, laidS, keepS, Bs, under_e]
    try trivial
  · rintro ⟨xs, r⟩ ⟨h1, h2⟩
    dsimp only at h1 h2
    have hr := h1.len (rowT_len _ n)
    have e3 := wi_succ (k := xs.length) (by omega)
    simp only [↓wt, wu, wk0, wk1, wk2, wk3, Nat.reduceAdd, Nat.reduceEqDiff, Nat.reduceLeDiff, Nat.reduceLT, Nat.reduceMul, Int.reduceLE, Int.reduceLT, Int.reduceEq, Int.reduceNe, wk4, laidS, keepS, Bs]
    repeat' (first | (refine r_casesD (fun hp hb => ?_) (fun hp hb => ?_) <;> simp only [↓wt, wu, wk0, wk1, wk2, wk3, Nat.reduceAdd, Nat.reduceEqDiff, Nat.reduceLeDiff, Nat.reduceLT, Nat.reduceMul, Int.reduceLE, Int.reduceLT, Int.reduceEq, Int.reduceNe, wk4, laidS, keepS, Bs, hb]) | (refine r_casesN (fun hp hb => ?_) (fun hp hb => ?_) <;> simp only [↓wt, wu, wk0, wk1, wk2, wk3, Nat.reduceAdd, Nat.reduceEqDiff, Nat.reduceLeDiff, Nat.reduceLT, Nat.reduceMul, Int.reduceLE, Int.reduceLT, Int.reduceEq, Int.reduceNe, wk4, laidS, keepS, Bs, hb]) | (refine r_casesM (fun hp hb => ?_) (fun hp hb => ?_) <;> simp only [↓wt, wu, wk0, wk1, wk2, wk3, Nat.reduceAdd, Nat.reduceEqDiff, Nat.reduceLeDiff, Nat.reduceLT, Nat.reduceMul, Int.reduceLE, Int.reduceLT, Int.reduceEq, Int.reduceNe, wk4, laidS, keepS, Bs, hb]) | (refine r_casesB (fun hp hb => ?_) (fun hp hb => ?_) <;> simp only [↓wt, wu, wk0, wk1, wk2, wk3, Nat.reduceAdd, Nat.reduceEqDiff, Nat.reduceLeDiff, Nat.reduceLT, Nat.reduceMul, Int.reduceLE, Int.reduceLT, Int.reduceEq, Int.reduceNe, wk4, laidS, keepS, Bs, hb]) | (refine r_gcasesD (fun hp hb => ?_) (fun hp hb => ?_) <;> simp only [↓wt, wu, wk0, wk1, wk2, wk3, Nat.reduceAdd, Nat.reduceEqDiff, Nat.reduceLeDiff, Nat.reduceLT, Nat.reduceMul, Int.reduceLE, Int.reduceLT, Int.reduceEq, Int.reduceNe, wk4, laidS, keepS, Bs, hb]) | (refine r_gcasesN (fun hp hb => ?_) (fun hp hb => ?_) <;> simp only [↓wt, wu, wk0, wk1, wk2, wk3, Nat.reduceAdd, Nat.reduceEqDiff, Nat.reduceLeDiff, Nat.reduceLT, Nat.reduceMul, Int.reduceLE, Int.reduceLT, Int.reduceEq, Int.reduceNe, wk4, laidS, keepS, Bs, hb]) | (refine r_gcasesM (fun hp hb => ?_) (fun hp hb => ?_) <;> simp only [↓wt, wu, wk0, wk1, wk2, wk3, Nat.reduceAdd, Nat.reduceEqDiff, Nat.reduceLeDiff, Nat.reduceLT, Nat.reduceMul, Int.reduceLE, Int.reduceLT, Int.reduceEq, Int.reduceNe, wk4, laidS, keepS, Bs, hb]) | (refine r_gcasesB (fun hp hb => ?_) (fun hp hb => ?_) <;> simp only [↓wt, wu, wk0, wk1, wk2, wk3, Nat.reduceAdd, Nat.reduceEqDiff, Nat.reduceLeDiff, Nat.reduceLT, Nat.reduceMul, Int.reduceLE, Int.reduceLT, Int.reduceEq, Int.reduceNe, wk4, laidS, keepS, Bs, hb]) | ((with_reducible refine And.intro ?_ ?_); omega) | fail)
    · have h3 : xs.length < n := by omega
      have fail : (rowT M62 n r).2.2 = false → Exp (Mem.mk [] 0) (.t [.c (.slice none 0 0), .c (.slice none 0 0), .c (.bool false)]) (TakeV (takeB M62 c b)) := fun ho => by
        have hm := h1.many (n - xs.length)
        rw [show xs.length + (n - xs.length) = n by omega, show n - xs.length = (n - xs.length - 1) + 1 by omega] at hm
        simp only [manyL, ho, Bool.false_eq_true, if_false, List.append_nil] at hm
        exact exp_takeN (by rw [takeB, hnt, if_neg fun h => by rw [hm] at h; have := h.2.1; dsimp only at this; omega])
      refine adopt_rule 9 2 1 rfl ?_
      simp only [↓wt, wu, wk0, wk1, wk2, wk3, Nat.reduceAdd, Nat.reduceEqDiff, Nat.reduceLeDiff, Nat.reduceLT, Nat.reduceMul, Int.reduceLE, Int.reduceLT, Int.reduceEq, Int.reduceNe, wk4, laidS, keepS]
      refine loop_ruleM tabOk [2, 7, 8] (fun y : List Int × List UInt8 => [(1, Bs y.2), (9, .s 2 0 y.1.length), (10, .c (.int .i64 y.1.length))]) (fun y => ⟨[(1, ⟨60, 3, xs.map RowV⟩), (2, ⟨2, 1, y.1.map encI⟩)], 3⟩) (fun y => Tk (num M62) r y.1 y.2 ∧ y.1.length ≤ n + 2) (fun y => n + 2 - y.1.length) ([], r) ⟨.nil, by simp⟩ (fun _ => rfl) ?_ ?_
      · simp only [↓wt, wu, wk0, wk1, wk2, wk3, wkf, Nat.reduceAdd, Nat.reduceEqDiff, Nat.reduceLeDiff, Nat.reduceLT, Nat.reduceMul, Int.reduceLE, Int.reduceLT, Int.reduceEq, Int.reduceNe, wk4, laidS, keepS, Bs, under_e, underL_R]
        try trivial
      · rintro ⟨ys, t⟩ ⟨k1, k2⟩
        dsimp only at k1 k2
        have ht := k1.len num_len
        have e5 := wi_succ (k := ys.length) (by omega)
        simp only [↓wt, wu, wk0, wk1, wk2, wk3, Nat.reduceAdd, Nat.reduceEqDiff, Nat.reduceLeDiff, Nat.reduceLT, Nat.reduceMul, Int.reduceLE, Int.reduceLT, Int.reduceEq, Int.reduceNe, wk4, laidS, keepS, Bs, e2]
        repeat' (first | (refine r_casesD (fun hp hb => ?_) (fun hp hb => ?_) <;> simp only [↓wt, wu, wk0, wk1, wk2, wk3, Nat.reduceAdd, Nat.reduceEqDiff, Nat.reduceLeDiff, Nat.reduceLT, Nat.reduceMul, Int.reduceLE, Int.reduceLT, Int.reduceEq, Int.reduceNe, wk4, laidS, keepS, Bs, e2, hb]) | (refine r_casesN (fun hp hb => ?_) (fun hp hb => ?_) <;> simp only [↓wt, wu, wk0, wk1, wk2, wk3, Nat.reduceAdd, Nat.reduceEqDiff, Nat.reduceLeDiff, Nat.reduceLT, Nat.reduceMul, Int.reduceLE, Int.reduceLT, Int.reduceEq, Int.reduceNe, wk4, laidS, keepS, Bs, e2, hb]) | (refine r_casesM (fun hp hb => ?_) (fun hp hb => ?_) <;> simp only [↓wt, wu, wk0, wk1, wk2, wk3, Nat.reduceAdd, Nat.reduceEqDiff, Nat.reduceLeDiff, Nat.reduceLT, Nat.reduceMul, Int.reduceLE, Int.reduceLT, Int.reduceEq, Int.reduceNe, wk4, laidS, keepS, Bs, e2, hb]) | (refine r_casesB (fun hp hb => ?_) (fun hp hb => ?_) <;> simp only [↓wt, wu, wk0, wk1, wk2, wk3, Nat.reduceAdd, Nat.reduceEqDiff, Nat.reduceLeDiff, Nat.reduceLT, Nat.reduceMul, Int.reduceLE, Int.reduceLT, Int.reduceEq, Int.reduceNe, wk4, laidS, keepS, Bs, e2, hb]) | (refine r_gcasesD (fun hp hb => ?_) (fun hp hb => ?_) <;> simp only [↓wt, wu, wk0, wk1, wk2, wk3, Nat.reduceAdd, Nat.reduceEqDiff, Nat.reduceLeDiff, Nat.reduceLT, Nat.reduceMul, Int.reduceLE, Int.reduceLT, Int.reduceEq, Int.reduceNe, wk4, laidS, keepS, Bs, e2, hb]) | (refine r_gcasesN (fun hp hb => ?_) (fun hp hb => ?_) <;> simp only [↓wt, wu, wk0, wk1, wk2, wk3, Nat.reduceAdd, Nat.reduceEqDiff, Nat.reduceLeDiff, Nat.reduceLT, Nat.reduceMul, Int.reduceLE, Int.reduceLT, Int.reduceEq, Int.reduceNe, wk4, laidS, keepS, Bs, e2, hb]) | (refine r_gcasesM (fun hp hb => ?_) (fun hp hb => ?_) <;> simp only [↓wt, wu, wk0, wk1, wk2, wk3, Nat.reduceAdd, Nat.reduceEqDiff, Nat.reduceLeDiff, Nat.reduceLT, Nat.reduceMul, Int.reduceLE, Int.reduceLT, Int.reduceEq, Int.reduceNe, wk4, laidS, keepS, Bs, e2, hb]) | (refine r_gcasesB (fun hp hb => ?_) (fun hp hb => ?_) <;> simp only [↓wt, wu, wk0, wk1, wk2, wk3, Nat.reduceAdd, Nat.reduceEqDiff, Nat.reduceLeDiff, Nat.reduceLT, Nat.reduceMul, Int.reduceLE, Int.reduceLT, Int.reduceEq, Int.reduceNe, wk4, laidS, keepS, Bs, e2, hb]) | ((with_reducible refine And.intro ?_ ?_); omega) | fail)
        · have k3 : ys.length < n + 2 := by omega
          have bad : (num M62 t).2.2 = false → (rowT M62 n r).2.2 = false := fun ho => by
            have hm := k1.many (n + 2 - ys.length - 1 + 1)
            rw [show manyL (num M62) (n + 2 - ys.length - 1 + 1) t = ([], t) by simp only [manyL, ho, Bool.false_eq_true, if_false], show ys.length + (n + 2 - ys.length - 1 + 1) = n + 2 by omega] at hm
            rw [rowT, hm, if_neg (by simp; omega)]
          refine icall_drop [] (nrtake_call t (by omega) (tk_is t)) ⟨arg_l (pureB _), trivial⟩ okR_take ?_
          simp only [↓wt, wu, wk0, wk1, wk2, wk3, Nat.reduceAdd, Nat.reduceEqDiff, Nat.reduceLeDiff, Nat.reduceLT, Nat.reduceMul, Int.reduceLE, Int.reduceLT, Int.reduceEq, Int.reduceNe, wk4, laidS, keepS, Bs]
          cases ho : (tk t).2.2
          · simp only [↓wt, wu, wk0, wk1, wk2, wk3, Nat.reduceAdd, Nat.reduceEqDiff, Nat.reduceLeDiff, Nat.reduceLT, Nat.reduceMul, Int.reduceLE, Int.reduceLT, Int.reduceEq, Int.reduceNe, wk4, laidS, keepS, ho, Bs, Try.results20]
            exact fail (bad (by simp only [num, ho, Bool.false_and]))
          · simp only [↓wt, wu, wk0, wk1, wk2, wk3, Nat.reduceAdd, Nat.reduceEqDiff, Nat.reduceLeDiff, Nat.reduceLT, Nat.reduceMul, Int.reduceLE, Int.reduceLT, Int.reduceEq, Int.reduceNe, wk4, laidS, keepS, ho, Bs]
            repeat' (first | (refine r_casesD (fun hp hb => ?_) (fun hp hb => ?_) <;> simp only [↓wt, wu, wk0, wk1, wk2, wk3, Nat.reduceAdd, Nat.reduceEqDiff, Nat.reduceLeDiff, Nat.reduceLT, Nat.reduceMul, Int.reduceLE, Int.reduceLT, Int.reduceEq, Int.reduceNe, wk4, laidS, keepS, ho, Bs, Try.results20, hb]) | (refine r_casesN (fun hp hb => ?_) (fun hp hb => ?_) <;> simp only [↓wt, wu, wk0, wk1, wk2, wk3, Nat.reduceAdd, Nat.reduceEqDiff, Nat.reduceLeDiff, Nat.reduceLT, Nat.reduceMul, Int.reduceLE, Int.reduceLT, Int.reduceEq, Int.reduceNe, wk4, laidS, keepS, ho, Bs, Try.results20, hb]) | (refine r_casesM (fun hp hb => ?_) (fun hp hb => ?_) <;> simp only [↓wt, wu, wk0, wk1, wk2, wk3, Nat.reduceAdd, Nat.reduceEqDiff, Nat.reduceLeDiff, Nat.reduceLT, Nat.reduceMul, Int.reduceLE, Int.reduceLT, Int.reduceEq, Int.reduceNe, wk4, laidS, keepS, ho, Bs, Try.results20, hb]) | (refine r_casesB (fun hp hb => ?_) (fun hp hb => ?_) <;> simp only [↓wt, wu, wk0, wk1, wk2, wk3, Nat.reduceAdd, Nat.reduceEqDiff, Nat.reduceLeDiff, Nat.reduceLT, Nat.reduceMul, Int.reduceLE, Int.reduceLT, Int.reduceEq, Int.reduceNe, wk4, laidS, keepS, ho, Bs, Try.results20, hb]) | (refine r_gcasesD (fun hp hb => ?_) (fun hp hb => ?_) <;> simp only [↓wt, wu, wk0, wk1, wk2, wk3, Nat.reduceAdd, Nat.reduceEqDiff, Nat.reduceLeDiff, Nat.reduceLT, Nat.reduceMul, Int.reduceLE, Int.reduceLT, Int.reduceEq, Int.reduceNe, wk4, laidS, keepS, ho, Bs, Try.results20, hb]) | (refine r_gcasesN (fun hp hb => ?_) (fun hp hb => ?_) <;> simp only [↓wt, wu, wk0, wk1, wk2, wk3, Nat.reduceAdd, Nat.reduceEqDiff, Nat.reduceLeDiff, Nat.reduceLT, Nat.reduceMul, Int.reduceLE, Int.reduceLT, Int.reduceEq, Int.reduceNe, wk4, laidS, keepS, ho, Bs, Try.results20, hb]) | (refine r_gcasesM (fun hp hb => ?_) (fun hp hb => ?_) <;> simp only [↓wt, wu, wk0, wk1, wk2, wk3, Nat.reduceAdd, Nat.reduceEqDiff, Nat.reduceLeDiff, Nat.reduceLT, Nat.reduceMul, Int.reduceLE, Int.reduceLT, Int.reduceEq, Int.reduceNe, wk4, laidS, keepS, ho, Bs, Try.results20, hb]) | (refine r_gcasesB (fun hp hb => ?_) (fun hp hb => ?_) <;> simp only [↓wt, wu, wk0, wk1, wk2, wk3, Nat.reduceAdd, Nat.reduceEqDiff, Nat.reduceLeDiff, Nat.reduceLT, Nat.reduceMul, Int.reduceLE, Int.reduceLT, Int.reduceEq, Int.reduceNe, wk4, laidS, keepS, ho, Bs, Try.results20, hb]) | ((with_reducible refine And.intro ?_ ?_); omega) | fail)
            · exact fail (bad (by simp only [num, ho, Bool.true_and, decide_eq_false_iff_not]; omega))
            · have hv : (num M62 t).2.2 = true := by simp only [num, ho, Bool.true_and, decide_eq_true_eq]; omega
              have hnum : num M62 t = (IntKind.i64.wrap ((tk t).1 : Int), (tk t).2.1, true) := Prod.ext rfl (Prod.ext rfl hv)
              refine ⟨(ys ++ [(num M62 t).1], (num M62 t).2.1), ⟨k1.snoc hv, by simp; omega⟩, by simp; omega, ?_⟩
              simp only [hnum]
              simp only [↓wt, wu, wk0, wk1, wk2, wk3, wkf, Nat.reduceAdd, Nat.reduceEqDiff, Nat.reduceLeDiff, Nat.reduceLT, Nat.reduceMul, Int.reduceLE, Int.reduceLT, Int.reduceEq, Int.reduceNe, wk4, laidS, keepS, Bs, e5, under_e, List.length_append, List.map_append, underL_append, underL_I, underL_R, encI_eq]
              try trivial
        · have k4 : ys.length = n + 2 := by omega
          have hm := k1.many 0
          simp only [Nat.add_zero, k4] at hm
          have hrow : rowT M62 n r = (⟨ys.getD 0 0, ys.getD 1 0, ys.drop 2⟩, t, true) := by
            rw [rowT, hm, if_pos (by simp [manyL, k4])]
            simp [manyL]
          refine freeze_rule 2 [1, 2, 7, 8, 9] (by simp only [↓wt, wu, wk0, wk1, wk2, wk3, Nat.reduceAdd, Nat.reduceEqDiff, Nat.reduceLeDiff, Nat.reduceLT, Nat.reduceMul, Int.reduceLE, Int.reduceLT, Int.reduceEq, Int.reduceNe, wk4, laidS, keepS, underL_R, frz_R, bok_R]; (try (repeat' (first | (exact fun _ => by simp only [pureL_eq, underL_cons, underL_nil, AV.cells, under_l, under_c, under_g, under_e, under_f, underL_B, underL_I, underL_Bs, under_Bs, List.mem_cons, List.not_mem_nil, or_false, forall_eq_or_imp, forall_eq, and_self, and_true, true_and, underL_R, frz_R, bok_R]) | ((with_reducible refine And.intro ?_ ?_)) | (intro _) | omega | (simp only [pureL_eq, underL_cons, underL_nil, AV.cells, under_l, under_c, under_g, under_e, under_f, underL_B, underL_I, underL_Bs, under_Bs, List.mem_cons, List.not_mem_nil, or_false, forall_eq_or_imp, forall_eq, and_self, and_true, true_and, underL_R, frz_R, bok_R])))); done) (by simp only [↓wt, wu, wk0, wk1, wk2, wk3, Nat.reduceAdd, Nat.reduceEqDiff, Nat.reduceLeDiff, Nat.reduceLT, Nat.reduceMul, Int.reduceLE, Int.reduceLT, Int.reduceEq, Int.reduceNe, wk4, laidS, keepS, underL_R, frz_R, bok_R]; (try (repeat' (first | (exact fun _ => by simp only [pureL_eq, underL_cons, underL_nil, AV.cells, under_l, under_c, under_g, under_e, under_f, underL_B, underL_I, underL_Bs, under_Bs, List.mem_cons, List.not_mem_nil, or_false, forall_eq_or_imp, forall_eq, and_self, and_true, true_and, underL_R, frz_R, bok_R]) | ((with_reducible refine And.intro ?_ ?_)) | (intro _) | omega | (simp only [pureL_eq, underL_cons, underL_nil, AV.cells, under_l, under_c, under_g, under_e, under_f, underL_B, underL_I, underL_Bs, under_Bs, List.mem_cons, List.not_mem_nil, or_false, forall_eq_or_imp, forall_eq, and_self, and_true, true_and, underL_R, frz_R, bok_R])))); done) ?_; simp only [↓wt, wu, wk0, wk1, wk2, wk3, Nat.reduceAdd, Nat.reduceEqDiff, Nat.reduceLeDiff, Nat.reduceLT, Nat.reduceMul, Int.reduceLE, Int.reduceLT, Int.reduceEq, Int.reduceNe, wk4, laidS, keepS, underL_R, frz_R, bok_R]
          refine draw_rule tabOk mixed [0, 0, 0, 0, 0, 0, 0, 0, 0, 1, 1, 1, 0] [[], [], [1], [1, 2], [], [4], [4, 5], [], [7], [1, 2, 3, 4, 5, 6, 7, 8], [1, 2, 3, 4, 5, 6, 7, 8, 9], [0, 1, 2, 3, 4, 5, 6, 7, 8, 9, 10], [0, 1, 2, 3, 4, 5, 6, 7, 8, 9, 10, 11]] (by kernel_rfl) ?_
          simp only [↓wt, wu, wk0, wk1, wk2, wk3, Nat.reduceAdd, Nat.reduceEqDiff, Nat.reduceLeDiff, Nat.reduceLT, Nat.reduceMul, Int.reduceLE, Int.reduceLT, Int.reduceEq, Int.reduceNe, wk4, laidS, keepS, elem_I]
          repeat (refine And.intro (by omega) ?_)
          refine d_heavyX (by simp only [↓wt, wu, wk0, wk1, wk2, wk3, Nat.reduceAdd, Nat.reduceEqDiff, Nat.reduceLeDiff, Nat.reduceLT, Nat.reduceMul, Int.reduceLE, Int.reduceLT, Int.reduceEq, Int.reduceNe, wk4, laidS, keepS]; (repeat (first | refine And.intro (by omega) ?_ | refine And.intro (pureB _) ?_ | refine And.intro (pureI _) ?_ | refine And.intro ⟨pureB _, pureB _⟩ ?_ | refine And.intro ⟨pureB _, pureI _⟩ ?_ | refine And.intro ⟨pureI _, pureB _⟩ ?_ | refine And.intro ⟨pureI _, pureI _⟩ ?_)); exact ⟨rfl, rfl⟩) ?_
          simp only [↓wt, wu, wk0, wk1, wk2, wk3, Nat.reduceAdd, Nat.reduceEqDiff, Nat.reduceLeDiff, Nat.reduceLT, Nat.reduceMul, Int.reduceLE, Int.reduceLT, Int.reduceEq, Int.reduceNe, wk4, laidS, keepS]
          refine d_heavyX (by simp only [↓wt, wu, wk0, wk1, wk2, wk3, Nat.reduceAdd, Nat.reduceEqDiff, Nat.reduceLeDiff, Nat.reduceLT, Nat.reduceMul, Int.reduceLE, Int.reduceLT, Int.reduceEq, Int.reduceNe, wk4, laidS, keepS]; (repeat (first | refine And.intro (by omega) ?_ | refine And.intro (pureB _) ?_ | refine And.intro (pureI _) ?_ | refine And.intro ⟨pureB _, pureB _⟩ ?_ | refine And.intro ⟨pureB _, pureI _⟩ ?_ | refine And.intro ⟨pureI _, pureB _⟩ ?_ | refine And.intro ⟨pureI _, pureI _⟩ ?_)); exact ⟨rfl, rfl⟩) ?_
          simp only [↓wt, wu, wk0, wk1, wk2, wk3, Nat.reduceAdd, Nat.reduceEqDiff, Nat.reduceLeDiff, Nat.reduceLT, Nat.reduceMul, Int.reduceLE, Int.reduceLT, Int.reduceEq, Int.reduceNe, wk4, laidS, keepS]
          refine d_heavyX (by simp only [↓wt, wu, wk0, wk1, wk2, wk3, Nat.reduceAdd, Nat.reduceEqDiff, Nat.reduceLeDiff, Nat.reduceLT, Nat.reduceMul, Int.reduceLE, Int.reduceLT, Int.reduceEq, Int.reduceNe, wk4, laidS, keepS]; (repeat (first | refine And.intro (by omega) ?_ | refine And.intro (pureB _) ?_ | refine And.intro (pureI _) ?_ | refine And.intro (pureR _) ?_ | refine And.intro ⟨pureB _, pureB _⟩ ?_ | refine And.intro ⟨pureB _, pureI _⟩ ?_ | refine And.intro ⟨pureB _, pureR _⟩ ?_ | refine And.intro ⟨pureI _, pureB _⟩ ?_ | refine And.intro ⟨pureI _, pureI _⟩ ?_ | refine And.intro ⟨pureI _, pureR _⟩ ?_ | refine And.intro ⟨pureR _, pureB _⟩ ?_ | refine And.intro ⟨pureR _, pureI _⟩ ?_ | refine And.intro ⟨pureR _, pureR _⟩ ?_)); exact ⟨rfl, rfl⟩) ?_
          simp only [↓wt, wu, wk0, wk1, wk2, wk3, Nat.reduceAdd, Nat.reduceEqDiff, Nat.reduceLeDiff, Nat.reduceLT, Nat.reduceMul, Int.reduceLE, Int.reduceLT, Int.reduceEq, Int.reduceNe, wk4, laidS, keepS]
          refine ⟨(xs ++ [(rowT M62 n r).1], (rowT M62 n r).2.1), ⟨h1.snoc (by rw [hrow]), by simp; omega⟩, by simp; omega, ?_⟩
          simp only [hrow]
          simp only [↓wt, wu, wk0, wk1, wk2, wk3, wkf, Nat.reduceAdd, Nat.reduceEqDiff, Nat.reduceLeDiff, Nat.reduceLT, Nat.reduceMul, Int.reduceLE, Int.reduceLT, Int.reduceEq, Int.reduceNe, wk4, laidS, keepS, Bs, e3, under_e, List.length_append, List.map_append, underL_append, underL_I, underL_R, RowV_eq]
          try trivial
    · have k4 : xs.length = n := by omega
      have hm := h1.many 0
      simp only [Nat.add_zero, k4] at hm
      have hm2 : manyL (rowT M62 c.n.toNat) c.n.toNat b = (xs, r) := by rw [hnt, hm]; simp [manyL]
      have hls := takeB_lens (c := c) (b := b) (B := M62) (m := n) (n := n) (by decide) (by omega) (by omega)
      rw [hnt] at hm2
      rw [hm2] at hls
      refine .step 1 [1, 2, 7] (by simp only [↓wt, wu, wk0, wk1, wk2, wk3, Nat.reduceAdd, Nat.reduceEqDiff, Nat.reduceLeDiff, Nat.reduceLT, Nat.reduceMul, Int.reduceLE, Int.reduceLT, Int.reduceEq, Int.reduceNe, wk4, laidS, keepS, underL_R]; (try (repeat' (first | (exact fun _ => by simp only [pureL_eq, underL_cons, underL_nil, AV.cells, under_l, under_c, under_g, under_e, under_f, underL_B, underL_I, underL_Bs, under_Bs, List.mem_cons, List.not_mem_nil, or_false, forall_eq_or_imp, forall_eq, and_self, and_true, true_and, underL_R]) | ((with_reducible refine And.intro ?_ ?_)) | (intro _) | omega | (simp only [pureL_eq, underL_cons, underL_nil, AV.cells, under_l, under_c, under_g, under_e, under_f, underL_B, underL_I, underL_Bs, under_Bs, List.mem_cons, List.not_mem_nil, or_false, forall_eq_or_imp, forall_eq, and_self, and_true, true_and, underL_R])))); done) (by simp only [↓wt, wu, wk0, wk1, wk2, wk3, Nat.reduceAdd, Nat.reduceEqDiff, Nat.reduceLeDiff, Nat.reduceLT, Nat.reduceMul, Int.reduceLE, Int.reduceLT, Int.reduceEq, Int.reduceNe, wk4, laidS, keepS, underL_R]; (try (repeat' (first | (exact fun _ => by simp only [pureL_eq, underL_cons, underL_nil, AV.cells, under_l, under_c, under_g, under_e, under_f, underL_B, underL_I, underL_Bs, under_Bs, List.mem_cons, List.not_mem_nil, or_false, forall_eq_or_imp, forall_eq, and_self, and_true, true_and, underL_R]) | ((with_reducible refine And.intro ?_ ?_)) | (intro _) | omega | (simp only [pureL_eq, underL_cons, underL_nil, AV.cells, under_l, under_c, under_g, under_e, under_f, underL_B, underL_I, underL_Bs, under_Bs, List.mem_cons, List.not_mem_nil, or_false, forall_eq_or_imp, forall_eq, and_self, and_true, true_and, underL_R])))); done) ?_; refine .done ?_; simp only [↓wt, wu, wk0, wk1, wk2, wk3, Nat.reduceAdd, Nat.reduceEqDiff, Nat.reduceLeDiff, Nat.reduceLT, Nat.reduceMul, Int.reduceLE, Int.reduceLT, Int.reduceEq, Int.reduceNe, wk4, laidS, keepS, underL_R]
      refine aw_sound tabOk _ _ _ ?_
      simp only [↓wt, wu, wk0, wk1, wk2, wk3, Nat.reduceAdd, Nat.reduceEqDiff, Nat.reduceLeDiff, Nat.reduceLT, Nat.reduceMul, Int.reduceLE, Int.reduceLT, Int.reduceEq, Int.reduceNe, wk4, laidS, keepS]
      refine icall_drop [] (rright_call c xs hls) ⟨arg_conf', arg_books, trivial⟩ (.c _) ?_
      simp only [↓wt, wu, wk0, wk1, wk2, wk3, Nat.reduceAdd, Nat.reduceEqDiff, Nat.reduceLeDiff, Nat.reduceLT, Nat.reduceMul, Int.reduceLE, Int.reduceLT, Int.reduceEq, Int.reduceNe, wk4, laidS, keepS]
      repeat' (first | (refine r_casesD (fun hp hb => ?_) (fun hp hb => ?_) <;> simp only [↓wt, wu, wk0, wk1, wk2, wk3, Nat.reduceAdd, Nat.reduceEqDiff, Nat.reduceLeDiff, Nat.reduceLT, Nat.reduceMul, Int.reduceLE, Int.reduceLT, Int.reduceEq, Int.reduceNe, wk4, laidS, keepS, Try.results20, hb]) | (refine r_casesN (fun hp hb => ?_) (fun hp hb => ?_) <;> simp only [↓wt, wu, wk0, wk1, wk2, wk3, Nat.reduceAdd, Nat.reduceEqDiff, Nat.reduceLeDiff, Nat.reduceLT, Nat.reduceMul, Int.reduceLE, Int.reduceLT, Int.reduceEq, Int.reduceNe, wk4, laidS, keepS, Try.results20, hb]) | (refine r_casesM (fun hp hb => ?_) (fun hp hb => ?_) <;> simp only [↓wt, wu, wk0, wk1, wk2, wk3, Nat.reduceAdd, Nat.reduceEqDiff, Nat.reduceLeDiff, Nat.reduceLT, Nat.reduceMul, Int.reduceLE, Int.reduceLT, Int.reduceEq, Int.reduceNe, wk4, laidS, keepS, Try.results20, hb]) | (refine r_casesB (fun hp hb => ?_) (fun hp hb => ?_) <;> simp only [↓wt, wu, wk0, wk1, wk2, wk3, Nat.reduceAdd, Nat.reduceEqDiff, Nat.reduceLeDiff, Nat.reduceLT, Nat.reduceMul, Int.reduceLE, Int.reduceLT, Int.reduceEq, Int.reduceNe, wk4, laidS, keepS, Try.results20, hb]) | (refine r_gcasesD (fun hp hb => ?_) (fun hp hb => ?_) <;> simp only [↓wt, wu, wk0, wk1, wk2, wk3, Nat.reduceAdd, Nat.reduceEqDiff, Nat.reduceLeDiff, Nat.reduceLT, Nat.reduceMul, Int.reduceLE, Int.reduceLT, Int.reduceEq, Int.reduceNe, wk4, laidS, keepS, Try.results20, hb]) | (refine r_gcasesN (fun hp hb => ?_) (fun hp hb => ?_) <;> simp only [↓wt, wu, wk0, wk1, wk2, wk3, Nat.reduceAdd, Nat.reduceEqDiff, Nat.reduceLeDiff, Nat.reduceLT, Nat.reduceMul, Int.reduceLE, Int.reduceLT, Int.reduceEq, Int.reduceNe, wk4, laidS, keepS, Try.results20, hb]) | (refine r_gcasesM (fun hp hb => ?_) (fun hp hb => ?_) <;> simp only [↓wt, wu, wk0, wk1, wk2, wk3, Nat.reduceAdd, Nat.reduceEqDiff, Nat.reduceLeDiff, Nat.reduceLT, Nat.reduceMul, Int.reduceLE, Int.reduceLT, Int.reduceEq, Int.reduceNe, wk4, laidS, keepS, Try.results20, hb]) | (refine r_gcasesB (fun hp hb => ?_) (fun hp hb => ?_) <;> simp only [↓wt, wu, wk0, wk1, wk2, wk3, Nat.reduceAdd, Nat.reduceEqDiff, Nat.reduceLeDiff, Nat.reduceLT, Nat.reduceMul, Int.reduceLE, Int.reduceLT, Int.reduceEq, Int.reduceNe, wk4, laidS, keepS, Try.results20, hb]) | ((with_reducible refine And.intro ?_ ?_); omega) | fail)
      · exact exp_takeY (by rw [takeB, hnt, hm2, if_pos ⟨by assumption, k4, by assumption⟩])
      · exact exp_takeN (by rw [takeB, hnt, hm2, if_neg fun h => hp h.2.2])
end Go.Ab
