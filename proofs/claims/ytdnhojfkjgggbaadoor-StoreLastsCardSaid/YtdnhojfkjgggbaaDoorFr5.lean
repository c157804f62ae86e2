/- Frames: all that bytes begin with. -/
import Derived.Test.YtdnhojfkjgggbaaDoorFr4
set_option linter.unusedSimpArgs false
set_option linter.unusedVariables false
set_option linter.constructorNameAsVariable false
set_option maxRecDepth 100000
namespace Go.Ab
open Go Go.Proofs Go.RowKit

theorem okR_one {p : List UInt8} {v : Value} : OkR (Under 0) (.t [Bs p, .c v]) := ⟨okR_Bs, .c _, trivial⟩
def ScG (b : List UInt8) (l : List (List UInt8)) : Prop := b = frs l ++ b.drop (frs l).length ∧ Smalls l
theorem ScG.le {b : List UInt8} {l : List (List UInt8)} (h : ScG b l) : (frs l).length ≤ b.length ∧ 5 * l.length ≤ b.length := by
  have := congrArg List.length h.1
  have := frs_len l
  simp only [List.length_append] at *
  omega
theorem ScG.step {b : List UInt8} {l : List (List UInt8)} (h : ScG b l) (ho : (oneT (b.drop (frs l).length)).2 ≠ 0) :
    ScG b (l ++ [(oneT (b.drop (frs l).length)).1]) ∧ (frs (l ++ [(oneT (b.drop (frs l).length)).1])).length = (frs l).length + (oneT (b.drop (frs l).length)).2 := by
  obtain ⟨h1, h2⟩ := oneT_of ho
  have e : frs (l ++ [(oneT (b.drop (frs l).length)).1]) = frs l ++ frL (oneT (b.drop (frs l).length)).1 := by rw [frs_append]; simp [frs]
  have el : (frs (l ++ [(oneT (b.drop (frs l).length)).1])).length = (frs l).length + (oneT (b.drop (frs l).length)).2 := by rw [e, List.length_append, h2]
  refine ⟨⟨?_, fun p hp => ?_⟩, el⟩
  · rw [el, ← List.drop_drop, e, List.append_assoc, ← h1]
    exact h.1
  · rcases List.mem_append.1 hp with hp | hp
    · exact h.2 p hp
    · rw [List.mem_singleton.1 hp]; exact oneT_small _
theorem ScG.done {b : List UInt8} {l : List (List UInt8)} (h : ScG b l) (ho : (oneT (b.drop (frs l).length)).2 = 0) : scP b = l := scP_eq ⟨_, h.1, ho, h.2⟩
theorem exp_scan {M : Mem} {T : TypeId} {id : Nat} {l m : List (List UInt8)} {n : Nat} {k : Int} (hl : m = l) (hn : n = l.length) (hk : k = (frs l).length) (hm : M.get id = some ⟨T, 1, l.map Bs⟩) :
    Exp M (.t [.s id 0 n, .c (.int .i64 k)]) (.t [.l 1 (m.map Bs), .c (.int .i64 (frs m).length)]) := by
  subst hl; subst hk
  exact exp_tA (xT_cons (xA_frz hm (by rw [hn, List.length_map, Nat.zero_add]) rfl (by rw [pureL_eq]; exact underL_Bs.mpr trivial)) (xT_cons xA_c xT_nil))
set_option maxHeartbeats 4000000 in
theorem fscan_call (b : List UInt8) (hl : b.length ≤ 100000000) : PCall Tryd.prog 10 [Bs b] (.t [.l 1 ((scP b).map Bs), .c (.int .i64 (frs (scP b)).length)]) := by
  refine pcall_body tabOk Tryd.func10 rfl rfl (by rw [Tryd.ntmps10]; simp) ?_
  simp only [Tryd.ntmps10, Bs]
  simp only [↓wt, wu, wk0, wk1, wk2, wk3, Nat.reduceAdd, Nat.reduceEqDiff, Nat.reduceLeDiff, Nat.reduceLT, Nat.reduceMul, Int.reduceLE, Int.reduceLT, Int.reduceEq, Int.reduceNe, wk4, laidS, keepS]
  refine adopt_rule 2 22 1 rfl ?_
  simp only [↓wt, wu, wk0, wk1, wk2, wk3, Nat.reduceAdd, Nat.reduceEqDiff, Nat.reduceLeDiff, Nat.reduceLT, Nat.reduceMul, Int.reduceLE, Int.reduceLT, Int.reduceEq, Int.reduceNe, wk4, laidS, keepS]
  refine scope_back tabOk 0 _ rfl (fun l : List (List UInt8) => ⟨[(0, Bs b), (2, .s 0 0 l.length), (3, .c (.int .i64 (frs l).length))], ⟨[(0, ⟨22, 1, l.map Bs⟩)], 1⟩, 24⟩) (ScG b) (fun l => b.length - (frs l).length) (fun _ => Nat.le_refl _) ?_ ?_
  · have h0 : ScG b [] := ⟨by simp [frs], fun p hp => by cases hp⟩
    have m1 := fone_call b hl
    have g1 : (0 : Int) < ((oneT b).2 : Int) ↔ (oneT b).2 ≠ 0 := by omega
    simp only [↓wt, wu, wk0, wk1, wk2, wk3, Nat.reduceAdd, Nat.reduceEqDiff, Nat.reduceLeDiff, Nat.reduceLT, Nat.reduceMul, Int.reduceLE, Int.reduceLT, Int.reduceEq, Int.reduceNe, wk4, laidS, keepS]
    refine ⟨by omega, ?_⟩
    refine icall_drop [] m1 ⟨arg_l (pureB _), trivial⟩ okR_one ?_
    by_cases ho : (oneT b).2 = 0
    · have hb : decide (((oneT b).2 : Int) > 0) = false := decide_eq_false (by omega)
      simp only [↓wt, wu, wk0, wk1, wk2, wk3, Nat.reduceAdd, Nat.reduceEqDiff, Nat.reduceLeDiff, Nat.reduceLT, Nat.reduceMul, Int.reduceLE, Int.reduceLT, Int.reduceEq, Int.reduceNe, wk4, laidS, keepS, Bs, hb, Tryd.results10]
      exact exp_scan (l := []) (h0.done (by simpa [frs] using ho)) rfl rfl rfl
    · have hb : decide (((oneT b).2 : Int) > 0) = true := decide_eq_true (by omega)
      obtain ⟨k1, k2⟩ := h0.step (by simpa [frs] using ho)
      have k3 := k1.le
      have e0 : b.drop (frs []).length = b := rfl
      rw [e0] at k1 k2 k3
      simp only [List.nil_append] at k1 k2 k3
      have e1 : IntKind.i64.wrap (0 + ((oneT b).2 : Int)) = ((frs [(oneT b).1]).length : Int) := by rw [wrap_i64 (by omega) (by omega), k2]; simp [frs]
      simp only [↓wt, wu, wk0, wk1, wk2, wk3, Nat.reduceAdd, Nat.reduceEqDiff, Nat.reduceLeDiff, Nat.reduceLT, Nat.reduceMul, Int.reduceLE, Int.reduceLT, Int.reduceEq, Int.reduceNe, wk4, laidS, keepS, Bs, hb, e1, Cell]
      refine ⟨[(oneT b).1], k1, ?_⟩
      simp only [↓wt, wu, wk0, wk1, wk2, wk3, wkf, Nat.reduceAdd, Nat.reduceEqDiff, Nat.reduceLeDiff, Nat.reduceLT, Nat.reduceMul, Int.reduceLE, Int.reduceLT, Int.reduceEq, Int.reduceNe, wk4, laidS, keepS, Bs, underL_Bs, e1]
  · intro l hG
    have hle := hG.le
    have m1 := fone_call (b.drop (frs l).length) (by rw [List.length_drop]; omega)
    simp only [↓wt, wu, wk0, wk1, wk2, wk3, Nat.reduceAdd, Nat.reduceEqDiff, Nat.reduceLeDiff, Nat.reduceLT, Nat.reduceMul, Int.reduceLE, Int.reduceLT, Int.reduceEq, Int.reduceNe, wk4, laidS, keepS, Bs]
    refine ⟨by omega, by omega, ?_⟩
    refine icall_drop [] m1 ⟨arg_l (pureB _), trivial⟩ okR_one ?_
    by_cases ho : (oneT (b.drop (frs l).length)).2 = 0
    · have hb : decide (((oneT (b.drop (frs l).length)).2 : Int) > 0) = false := decide_eq_false (by omega)
      simp only [↓wt, wu, wk0, wk1, wk2, wk3, Nat.reduceAdd, Nat.reduceEqDiff, Nat.reduceLeDiff, Nat.reduceLT, Nat.reduceMul, Int.reduceLE, Int.reduceLT, Int.reduceEq, Int.reduceNe, wk4, laidS, keepS, Bs, hb, Tryd.results10]
      exact exp_scan (hG.done ho) rfl rfl rfl
    · have hb : decide (((oneT (b.drop (frs l).length)).2 : Int) > 0) = true := decide_eq_true (by omega)
      obtain ⟨k1, k2⟩ := hG.step ho
      have k3 := k1.le
      have e1 : IntKind.i64.wrap (((frs l).length : Int) + ((oneT (b.drop (frs l).length)).2 : Int)) = ((frs (l ++ [(oneT (b.drop (frs l).length)).1])).length : Int) := by rw [wrap_i64 (by omega) (by omega), k2]; omega
      simp only [↓wt, wu, wk0, wk1, wk2, wk3, Nat.reduceAdd, Nat.reduceEqDiff, Nat.reduceLeDiff, Nat.reduceLT, Nat.reduceMul, Int.reduceLE, Int.reduceLT, Int.reduceEq, Int.reduceNe, wk4, laidS, keepS, Bs, hb, e1, Cell]
      refine ⟨by omega, l ++ [(oneT (b.drop (frs l).length)).1], ⟨k1, by omega⟩, ?_⟩
      simp only [↓wt, wu, wk0, wk1, wk2, wk3, wkf, Nat.reduceAdd, Nat.reduceEqDiff, Nat.reduceLeDiff, Nat.reduceLT, Nat.reduceMul, Int.reduceLE, Int.reduceLT, Int.reduceEq, Int.reduceNe, wk4, laidS, keepS, Bs, underL_Bs, e1, List.length_append, List.map_append, underL_append]
end Go.Ab
