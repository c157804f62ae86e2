/- Store: tapes of frames alone (plain laws). -/
import Derived.Test.YtdnhojfkjgggbaaDoorSt5
set_option linter.unusedSimpArgs false
set_option linter.unusedVariables false
set_option linter.constructorNameAsVariable false
set_option maxRecDepth 100000
namespace Go.Ab
open Go Go.Proofs Go.RowKit

/-- A tape that has frames alone. -/
def frT (l : List (List UInt8)) : Tape4 := ⟨frs l, [], [], []⟩
theorem frT_main {l : List (List UInt8)} (hl : Smalls l) : mainF (frT l) = l := by
  show scP (frs l ++ []) = l
  rw [List.append_nil]; exact sc_all hl
theorem frT_op {l : List (List UInt8)} (hl : Smalls l) : opT (frT l) = frT l := by
  show (⟨frs (mainF (frT l)), [], [], []⟩ : Tape4) = frT l
  rw [frT_main hl]; rfl
theorem frT_n {l : List (List UInt8)} : (frT l).n = (frs l).length := by
  simp [Tape4.n, total, frT]
theorem frT_opB {l : List (List UInt8)} (hl : Smalls l) (h : (frs l).length ≤ 65536) : opB (frT l) = true :=
  opB_iff.2 ⟨by rw [frT_n]; exact h, (frT_op hl).symm⟩
theorem begT {l : List (List UInt8)} {x : List UInt8} {m : Int} (hl : Smalls l) (h : (frs l).length ≤ 65536) (h2 : (frs l).length + (frL x).length ≤ 65536) :
    begR (frT l) x m = if m < ((frL x).length : Int) then (frT l, false, 6) else if m < (((frs l).length + (frL x).length : Nat) : Int) then (⟨frs l, [], [], frL x⟩, true, 0) else (⟨frs l, frL x, [], []⟩, false, 0) := by
  have hw : wrC (frT l) (frL x) = 0 := by rw [wrC, frT_n, if_pos h, if_pos h2]
  rw [begR, if_neg (by rw [frT_opB hl h]; decide)]
  by_cases h3 : m < ((frL x).length : Int)
  · rw [if_pos h3, if_pos h3]
  · rw [if_neg h3, if_neg h3, if_neg (by simp [hw])]
    have hwt : ∀ b, wrT (frT l) b (frL x) = if b = true then ⟨frs l, [], [], frL x⟩ else ⟨frs l, frL x, [], []⟩ := fun b => by
      rw [wrT, if_pos ⟨by rw [frT_n]; exact h, by rw [frT_n]; exact h2⟩]
      simp [frT]
    rw [hwt]
    by_cases h4 : m < (((frs l).length + (frL x).length : Nat) : Int)
    · rw [if_pos h4, show decide (m < ((((frT l).a).length + (frL x).length : Nat) : Int)) = true from decide_eq_true h4, if_pos rfl]
    · rw [if_neg h4, show decide (m < ((((frT l).a).length + (frL x).length : Nat) : Int)) = false from decide_eq_false h4, if_neg (by decide)]
theorem frs_one {x : List UInt8} : frs [x] = frL x := by simp [frs]
theorem savT {l : List (List UInt8)} {x : List UInt8} {m : Int} (hl : Smalls l) (h : (frs l).length ≤ 65536) (h2 : (frs l).length + (frL x).length ≤ 65536) :
    savR (frT l) x m = if m < ((frL x).length : Int) then (frT l, 6) else if m < (((frs l).length + (frL x).length : Nat) : Int) then (frT [x], 0) else (frT (l ++ [x]), 0) := by
  unfold savR
  rw [begT hl h h2]
  by_cases h3 : m < ((frL x).length : Int)
  · simp [h3]
  · by_cases h4 : m < (((frs l).length + (frL x).length : Nat) : Int)
    · rw [if_neg h3, if_neg h3, if_pos h4, if_pos h4, if_neg (by simp)]
      simp only [cond_true, syT, tuT, frT, frs_one, List.nil_append]
    · rw [if_neg h3, if_neg h3, if_neg h4, if_neg h4, if_neg (by simp)]
      simp only [cond_false, syT, frT, frs_append, frs_one]
/-- Torn at any byte, and opened. -/
theorem torT {l : List (List UInt8)} {x : List UInt8} {m n : Int} (hl : Smalls l) (hx : x.length < 18446744073709551616) (h : (frs l).length ≤ 65536) (h2 : (frs l).length + (frL x).length ≤ 65536) :
    (m < ((frL x).length : Int) ∧ torR (frT l) x m n = (frT l, 6)) ∨ (¬ m < ((frL x).length : Int) ∧ ∃ u, torR (frT l) x m n = (u, 0) ∧ u.Lt ∧ (opT u = frT l ∨ (opT u = frT (l ++ [x]) ∧ ((frL x).length : Int) ≤ n))) := by
  unfold torR
  rw [begT hl h h2]
  by_cases h3 : m < ((frL x).length : Int)
  · exact .inl ⟨h3, by simp [h3]⟩
  refine .inr ⟨h3, ?_⟩
  have hsm : Smalls (l ++ [x]) := fun p hp => by
    rcases List.mem_append.1 hp with hp | hp
    · exact hl p hp
    · rw [List.mem_singleton.1 hp]; exact hx
  by_cases h4 : m < (((frs l).length + (frL x).length : Nat) : Int)
  · rw [if_neg h3, if_pos h4, if_neg (by simp)]
    refine ⟨_, rfl, ⟨?_, ?_, ?_, ?_⟩, .inl ?_⟩
    · simp only [loT, List.take_nil, List.append_nil]; omega
    · simp [loT]
    · simp only [loT, List.nil_append, List.length_take]; omega
    · simp [loT]
    · simp only [loT, List.take_nil, List.append_nil, List.nil_append]
      show (⟨frs (scP (frs l ++ [])), [], [], []⟩ : Tape4) = frT l
      rw [List.append_nil, sc_all hl]; rfl
  · rw [if_neg h3, if_neg h4, if_neg (by simp)]
    refine ⟨_, rfl, ⟨?_, ?_, ?_, ?_⟩, ?_⟩
    · simp only [loT, List.length_append, List.length_take]; omega
    · simp [loT]
    · simp [loT]
    · simp [loT]
    · have ho : opT (loT ⟨frs l, frL x, [], []⟩ n) = ⟨frs (scP (frs l ++ (frL x).take n.toNat)), [], [], []⟩ := by
        show (⟨frs (scP ((frs l ++ (frL x).take n.toNat) ++ [])), [], [], []⟩ : Tape4) = _
        rw [List.append_nil]
      rw [ho]
      by_cases h5 : ((frL x).length : Int) ≤ n
      · refine .inr ⟨?_, h5⟩
        rw [List.take_of_length_le (by omega), ← frs_one, ← frs_append, sc_all hsm]; rfl
      · refine .inl ?_
        have e : scP (frs l ++ (frL x).take n.toNat) = l := by
          refine scP_eq ⟨(frL x).take n.toNat, rfl, one_cut (s := (frL x).drop n.toNat) hx (List.take_append_drop _ _) fun h => ?_, hl⟩
          have := congrArg List.length h
          simp only [List.length_drop, List.length_nil] at this
          have := frL_len x
          omega
        rw [e]; rfl
end Go.Ab
