/- Frames: awake; FrameScans. -/
import Derived.Test.YtdnhojfkjgggbaaDoorFr7
set_option linter.unusedSimpArgs false
set_option linter.unusedVariables false
set_option linter.constructorNameAsVariable false
set_option maxRecDepth 100000
namespace Go.Ab
open Go Go.Proofs Go.RowKit

theorem okR_scan {l : List (List UInt8)} {v : Value} : OkR (Under 0) (.t [.l 1 (l.map Bs), .c v]) := ⟨.l _ _ ((underL_Bs (k := 0) (ls := l)).mpr trivial), .c _, trivial⟩
def w8 : List UInt8 := [0, 141, 239, 2, 210]
theorem fr_nil : frL [] = w8 := by
  have h0 : putL 0 = [0] := putL_low (by decide)
  have ht : textL [] = [0] := by rw [textL]; simp [h0]
  rw [frL, ht]
  decide +kernel
theorem one_1 : (oneT [1]).2 = 0 := by
  have h1 : putL 1 = [1] := putL_low (by decide)
  have e := tq_put (v := 1) (r := []) (by decide)
  rw [h1] at e
  have e2 : tq [1] = (1, [], true) := e
  rw [oneT, show txT [1] = ([], [], false) by rw [txT, e2, if_neg (by decide)], if_neg fun h => by cases h.1]
theorem sc_w8 : scP [0, 141, 239, 2, 210, 1] = [[]] := scP_eq ⟨[1], by simp [frs, fr_nil, w8], one_1, fun p hp => by rw [List.mem_singleton.1 hp]; decide⟩
set_option maxHeartbeats 4000000 in
theorem faw_call : PCall Tryd.prog 9 [] (.c (.bool true)) := by
  obtain ⟨e8, he8⟩ : ∃ e : List UInt8, e = w8 := ⟨_, rfl⟩
  obtain ⟨l8, hl8⟩ : ∃ e : List (List UInt8), e = [[]] := ⟨_, rfl⟩
  obtain ⟨n8, hn8⟩ : ∃ n : Nat, n = 5 := ⟨_, rfl⟩
  have m1 := fscan_call [0, 141, 239, 2, 210, 1] (by decide)
  rw [sc_w8, show (frs [[]]).length = n8 by rw [hn8]; simp [frs, fr_nil, w8], ← hl8] at m1
  have m2 := fput_call [] [] (by decide) (by decide)
  rw [List.nil_append, fr_nil, ← he8] at m2
  have m3 := fsize_call 0 (by decide)
  rw [show (putL 0).length + 0 + 4 = n8 by rw [putL_low (by decide), hn8]; rfl] at m3
  refine pcall_body tabOk Tryd.func9 rfl rfl (by rw [Tryd.ntmps9]; simp) ?_
  simp only [Tryd.ntmps9]
  simp only [↓wt, wu, wk0, wk1, wk2, wk3, Nat.reduceAdd, Nat.reduceEqDiff, Nat.reduceLeDiff, Nat.reduceLT, Nat.reduceMul, Int.reduceLE, Int.reduceLT, Int.reduceEq, Int.reduceNe, wk4, laidS, keepS]
  refine ⟨pureB [0, 141, 239, 2, 210, 1], ?_⟩
  refine icall_drop [] m1 ⟨arg_l (pureB [0, 141, 239, 2, 210, 1]), trivial⟩ okR_scan ?_
  simp only [↓wt, wu, wk0, wk1, wk2, wk3, Nat.reduceAdd, Nat.reduceEqDiff, Nat.reduceLeDiff, Nat.reduceLT, Nat.reduceMul, Int.reduceLE, Int.reduceLT, Int.reduceEq, Int.reduceNe, wk4, laidS, keepS, Bs]
  refine icall_drop [] m2 ⟨arg_nil, arg_nil, trivial⟩ (pureB _) ?_
  have b1 : (e8 == [0, 141, 239, 2, 210]) = true := by rw [he8]; rfl
  have b2 : decide ((l8.length : Int) = 1) = true := by rw [hl8]; rfl
  have b3 : decide (((l8.getD 0 []).length : Int) = 0) = true := by rw [hl8]; rfl
  have b4 : decide ((n8 : Int) = 5) = true := by rw [hn8]; rfl
  have b5 : 0 < l8.length := by rw [hl8]; decide
  simp only [↓wt, wu, wk0, wk1, wk2, wk3, Nat.reduceAdd, Nat.reduceEqDiff, Nat.reduceLeDiff, Nat.reduceLT, Nat.reduceMul, Int.reduceLE, Int.reduceLT, Int.reduceEq, Int.reduceNe, wk4, laidS, keepS, b1, b2, b3, b4, elem_Bs, Bs]
  repeat (refine And.intro (by omega) ?_)
  refine icall_drop [] m3 ⟨arg_c, trivial⟩ (.c _) ?_
  simp only [↓wt, wu, wk0, wk1, wk2, wk3, Nat.reduceAdd, Nat.reduceEqDiff, Nat.reduceLeDiff, Nat.reduceLT, Nat.reduceMul, Int.reduceLE, Int.reduceLT, Int.reduceEq, Int.reduceNe, wk4, laidS, keepS, b4, Tryd.results9]
  exact exp_c
theorem sc_G (b : List UInt8) : ScG b (scP b) := by
  obtain ⟨r, h1, h2, h3⟩ := scP_is b
  have h5 := List.drop_left (l₁ := frs (scP b)) (l₂ := r)
  rw [← h1] at h5
  exact ⟨by rw [h5]; exact h1, h3⟩
set_option maxHeartbeats 2000000 in
theorem framescans_call (b : List UInt8) : PCall Tryd.prog 3 [Bs b] (.c (.bool true)) := by
  refine pcall_body tabOk Tryd.func3 rfl rfl (by rw [Tryd.ntmps3]; simp) ?_
  simp only [Tryd.ntmps3, Bs]
  simp only [↓wt, wu, wk0, wk1, wk2, wk3, Nat.reduceAdd, Nat.reduceEqDiff, Nat.reduceLeDiff, Nat.reduceLT, Nat.reduceMul, Int.reduceLE, Int.reduceLT, Int.reduceEq, Int.reduceNe, wk4, laidS, keepS]
  refine icall_drop [] faw_call trivial (.c _) ?_
  simp only [↓wt, wu, wk0, wk1, wk2, wk3, Nat.reduceAdd, Nat.reduceEqDiff, Nat.reduceLeDiff, Nat.reduceLT, Nat.reduceMul, Int.reduceLE, Int.reduceLT, Int.reduceEq, Int.reduceNe, wk4, laidS, keepS]
  repeat' (first | (refine r_casesD (fun hp hb => ?_) (fun hp hb => ?_) <;> simp only [↓wt, wu, wk0, wk1, wk2, wk3, Nat.reduceAdd, Nat.reduceEqDiff, Nat.reduceLeDiff, Nat.reduceLT, Nat.reduceMul, Int.reduceLE, Int.reduceLT, Int.reduceEq, Int.reduceNe, wk4, laidS, keepS, Tryd.results3, hb]) | (refine r_casesN (fun hp hb => ?_) (fun hp hb => ?_) <;> simp only [↓wt, wu, wk0, wk1, wk2, wk3, Nat.reduceAdd, Nat.reduceEqDiff, Nat.reduceLeDiff, Nat.reduceLT, Nat.reduceMul, Int.reduceLE, Int.reduceLT, Int.reduceEq, Int.reduceNe, wk4, laidS, keepS, Tryd.results3, hb]) | (refine r_casesM (fun hp hb => ?_) (fun hp hb => ?_) <;> simp only [↓wt, wu, wk0, wk1, wk2, wk3, Nat.reduceAdd, Nat.reduceEqDiff, Nat.reduceLeDiff, Nat.reduceLT, Nat.reduceMul, Int.reduceLE, Int.reduceLT, Int.reduceEq, Int.reduceNe, wk4, laidS, keepS, Tryd.results3, hb]) | (refine r_casesB (fun hp hb => ?_) (fun hp hb => ?_) <;> simp only [↓wt, wu, wk0, wk1, wk2, wk3, Nat.reduceAdd, Nat.reduceEqDiff, Nat.reduceLeDiff, Nat.reduceLT, Nat.reduceMul, Int.reduceLE, Int.reduceLT, Int.reduceEq, Int.reduceNe, wk4, laidS, keepS, Tryd.results3, hb]) | (refine r_gcasesD (fun hp hb => ?_) (fun hp hb => ?_) <;> simp only [↓wt, wu, wk0, wk1, wk2, wk3, Nat.reduceAdd, Nat.reduceEqDiff, Nat.reduceLeDiff, Nat.reduceLT, Nat.reduceMul, Int.reduceLE, Int.reduceLT, Int.reduceEq, Int.reduceNe, wk4, laidS, keepS, Tryd.results3, hb]) | (refine r_gcasesN (fun hp hb => ?_) (fun hp hb => ?_) <;> simp only [↓wt, wu, wk0, wk1, wk2, wk3, Nat.reduceAdd, Nat.reduceEqDiff, Nat.reduceLeDiff, Nat.reduceLT, Nat.reduceMul, Int.reduceLE, Int.reduceLT, Int.reduceEq, Int.reduceNe, wk4, laidS, keepS, Tryd.results3, hb]) | (refine r_gcasesM (fun hp hb => ?_) (fun hp hb => ?_) <;> simp only [↓wt, wu, wk0, wk1, wk2, wk3, Nat.reduceAdd, Nat.reduceEqDiff, Nat.reduceLeDiff, Nat.reduceLT, Nat.reduceMul, Int.reduceLE, Int.reduceLT, Int.reduceEq, Int.reduceNe, wk4, laidS, keepS, Tryd.results3, hb]) | (refine r_gcasesB (fun hp hb => ?_) (fun hp hb => ?_) <;> simp only [↓wt, wu, wk0, wk1, wk2, wk3, Nat.reduceAdd, Nat.reduceEqDiff, Nat.reduceLeDiff, Nat.reduceLT, Nat.reduceMul, Int.reduceLE, Int.reduceLT, Int.reduceEq, Int.reduceNe, wk4, laidS, keepS, Tryd.results3, hb]) | ((with_reducible refine And.intro ?_ ?_); omega) | fail)
  · exact exp_c
  have hb2 : b.length ≤ 2000 := by omega
  have hle := (sc_G b).le
  refine icall_drop [] (fscan_call b (by omega)) ⟨arg_l (pureB _), trivial⟩ okR_scan ?_
  simp only [↓wt, wu, wk0, wk1, wk2, wk3, Nat.reduceAdd, Nat.reduceEqDiff, Nat.reduceLeDiff, Nat.reduceLT, Nat.reduceMul, Int.reduceLE, Int.reduceLT, Int.reduceEq, Int.reduceNe, wk4, laidS, keepS]
  refine icall_drop [] (frscan_call b (by omega)) ⟨arg_l (pureB _), trivial⟩ okR_scan ?_
  simp only [↓wt, wu, wk0, wk1, wk2, wk3, Nat.reduceAdd, Nat.reduceEqDiff, Nat.reduceLeDiff, Nat.reduceLT, Nat.reduceMul, Int.reduceLE, Int.reduceLT, Int.reduceEq, Int.reduceNe, wk4, laidS, keepS]
  have hp : PureL ((scP b).map Bs) := by rw [pureL_eq]; exact underL_Bs.mpr trivial
  refine icall_drop [] (frsame_call (scP b) (scP b) (by omega)) ⟨arg_l hp, arg_l hp, trivial⟩ (.c _) ?_
  simp only [↓wt, wu, wk0, wk1, wk2, wk3, Nat.reduceAdd, Nat.reduceEqDiff, Nat.reduceLeDiff, Nat.reduceLT, Nat.reduceMul, Int.reduceLE, Int.reduceLT, Int.reduceEq, Int.reduceNe, wk4, laidS, keepS, Tryd.results3]
  exact exp_c
end Go.Ab
