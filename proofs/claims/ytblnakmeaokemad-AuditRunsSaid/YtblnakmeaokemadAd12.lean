/- Audits: told by any messages: the plain law. -/
import Derived.Test.YtblnakmeaokemadAd9
set_option linter.unusedSimpArgs false
set_option linter.unusedVariables false
set_option linter.constructorNameAsVariable false
set_option maxRecDepth 100000
namespace Go.Ab
open Go Go.Proofs Go.RowKit

/-- How many told. -/
def cntB : List Bool → Nat
  | [] => 0
  | b :: r => (if b then 1 else 0) + cntB r
theorem cntB_le : ∀ l : List Bool, cntB l ≤ l.length
  | [] => Nat.le_refl _
  | b :: r => by have := cntB_le r; simp only [cntB, List.length_cons]; split <;> omega
theorem cntB_append : ∀ a b : List Bool, cntB (a ++ b) = cntB a + cntB b
  | [], b => by simp [cntB]
  | x :: a, b => by simp only [List.cons_append, cntB, cntB_append a b]; omega
theorem cntB_snoc {l : List Bool} {k : Nat} (h : k < l.length) : cntB (l.take (k + 1)) = cntB (l.take k) + (if l.getD k false then 1 else 0) := by
  rw [List.take_add_one, List.getElem?_eq_getElem h, cntB_append, List.getD_eq_getElem?_getD, List.getElem?_eq_getElem h]
  simp [cntB]
theorem cntB_set : ∀ (l : List Bool) (k : Nat), k < l.length → l.getD k false = false → cntB (l.set k true) = cntB l + 1
  | b :: r, 0, _, h => by
    have hb : b = false := h
    subst hb
    simp [cntB, Nat.add_comm]
  | b :: r, k + 1, hk, h => by
    have := cntB_set r k (by simpa using hk) (by simpa using h)
    simp only [List.set_cons_succ, cntB, this]; omega
theorem cntB_full : ∀ l : List Bool, cntB l = l.length ↔ ∀ k, k < l.length → l.getD k false = true
  | [] => by simp [cntB]
  | b :: r => by
    have hle := cntB_le r
    have ih := cntB_full r
    constructor
    · intro h k hk
      have hb : b = true := by
        cases b
        · simp only [cntB, List.length_cons, Bool.false_eq_true, if_false] at h; omega
        · rfl
      subst hb
      cases k with
      | zero => rfl
      | succ k =>
        have : cntB r = r.length := by simp only [cntB, List.length_cons, if_true] at h; omega
        simpa using ih.1 this k (by simpa using hk)
    · intro h
      have hb : b = true := h 0 (by simp)
      subst hb
      have : cntB r = r.length := ih.2 fun k hk => by simpa using h (k + 1) (by simpa using hk)
      simp only [cntB, List.length_cons, if_true, this]; omega
theorem cntB_rep (n : Nat) : cntB (List.replicate n false) = 0 := by
  induction n with
  | zero => rfl
  | succ n ih => rw [List.replicate_succ]; simp [cntB, ih]
section
variable {c : Conf} {who : Int} {a : AudD} {l : List RowD} {m : MailD}
theorem run_some (h : RunA c who a) : ¬ NoneA a := fun g => by have := g.1.1; have := h.1.1; omega
theorem run_may (hth : ThereC c who) (h : RunA c who a) : MayA c who a := ⟨hth, .inr h⟩
/-- All told: so many. -/
theorem all_cnt (hth : ThereC c who) (h : RunA c who a) : AllA who a ↔ (cntB a.told : Int) = c.n - 1 := by
  have hw : 0 ≤ who ∧ who < c.n := hth.2
  have hl := h.2.1.1
  have h8 := h.2.2.1
  have hs := cntB_set a.told who.toNat (by omega) h8
  have hf := cntB_full (a.told.set who.toNat true)
  rw [List.length_set, hs] at hf
  constructor
  · intro g
    have := hf.2 fun k hk => by
      rw [getD_setA (by omega)]
      by_cases e : k = who.toNat
      · rw [if_pos e]
      · rw [if_neg e]; exact g.1 k hk (by omega)
    omega
  · intro g
    refine ⟨fun k hk hne => ?_, run_some h⟩
    have := hf.1 (by omega) k hk
    rwa [getD_setA (by omega), if_neg (by omega)] at this
theorem ends_run (hth : ThereC c who) (h : RunA c who a) (hr : RightB c l) : (endsA c who a l).2.2 = decide (a.p = 2 ∧ (cntB a.told : Int) = c.n - 1) := by
  by_cases g : a.p = 2 ∧ (cntB a.told : Int) = c.n - 1
  · rw [endsA, if_pos ⟨run_may hth h, hr, g.1, (all_cnt hth h).2 g.2⟩, decide_eq_true g]
    split <;> rfl
  · rw [endsA, if_neg fun k => g ⟨k.2.2.1, (all_cnt hth h).1 k.2.2.2⟩, decide_eq_false g]
theorem next_run (hth : ThereC c who) (h : RunA c who a) (hr : RightB c l) : (nextA c who a l).2 = decide (a.p = 1 ∧ (cntB a.told : Int) = c.n - 1) ∧
    ((nextA c who a l).2 = true → RunA c who (nextA c who a l).1 ∧ (nextA c who a l).1.p = 2 ∧ cntB (nextA c who a l).1.told = 0) := by
  have hw : 0 ≤ who ∧ who < c.n := hth.2
  have hn := hr.2.1.1
  have hok : NextOk c who a l := ⟨run_may hth h, hr⟩
  by_cases g : a.p = 1 ∧ (cntB a.told : Int) = c.n - 1
  · have g2 : a.p = 1 ∧ AllA who a := ⟨g.1, (all_cnt hth h).2 g.2⟩
    rw [nextA, if_pos hok, if_pos g2, decide_eq_true g]
    obtain ⟨⟨g1, g2, g3, g4⟩, ⟨g5, g6, g7⟩, g8, g9, g10⟩ := h
    refine ⟨rfl, fun _ => ⟨⟨⟨g1, g2, by show (1 : Int) ≤ 2; decide, by show (2 : Int) ≤ 2; decide⟩, ⟨by simpa using g5, by simpa using g6, g7⟩, getD_repA, amts_setA g9 (hr.2.1.row hr.1 (w := who.toNat) (by omega)).2.2.2.1, g10⟩, rfl, cntB_rep _⟩⟩
  · rw [nextA, if_pos hok, if_neg fun k => g ⟨k.1, (all_cnt hth h).1 k.2⟩, decide_eq_false g]
    exact ⟨rfl, fun h => by cases h⟩
theorem tell_run (hth : ThereC c who) (h : RunA c who a) (ho : (tellA c who a m).2 = 0) : RunA c who (tellA c who a m).1 ∧ (tellA c who a m).1.y = a.y ∧ (tellA c who a m).1.p = a.p ∧
    (cntB (tellA c who a m).1.told = cntB a.told ∨ cntB (tellA c who a m).1.told = cntB a.told + 1) := by
  by_cases hok : TellOk c who a m
  rotate_left
  · rw [tellA, if_neg hok] at ho; cases ho
  have hw : 0 ≤ who ∧ who < c.n := hth.2
  by_cases hd : Deaf a who m
  · rw [tellA, if_pos hok, if_pos hd]; exact ⟨h, rfl, rfl, .inl rfl⟩
  rw [tellA, if_pos hok, if_neg hd]
  have hf : 0 ≤ m.f ∧ m.f < c.n := hok.2.1.1.2
  have hne : m.f ≠ who := by rw [← hok.2.2]; exact hok.2.1.2.2.1
  have hri := hok.2.1.2.2.2.2.1
  have hrow := hri.2.1.row hri.1 (w := m.f.toNat) (by have := hri.2.1.1; omega)
  have ht : a.told.getD m.f.toNat false = false := by
    cases e : a.told.getD m.f.toNat false
    · rfl
    · exact absurd (.inr (.inr e)) hd
  obtain ⟨g1, ⟨g5, g6, g7⟩, g8, g9, g10⟩ := h
  have hc := cntB_set a.told m.f.toNat (by omega) ht
  refine ⟨⟨g1, ⟨by simpa [toldD] using g5, ?_, ?_⟩, ?_, ?_, ?_⟩, rfl, rfl, .inr hc⟩
  · simp only [toldD]; split
    · simpa using g6
    · exact g6
  · simp only [toldD]; split
    · exact g7
    · simpa using g7
  · show (a.told.set _ _).getD _ false = false
    rw [getD_setA (by omega), if_neg (by omega)]; exact g8
  · simp only [toldD]; split
    · exact amts_setA g9 hrow.2.2.2.1
    · exact g9
  · simp only [toldD]; split
    · exact g10
    · exact amts_setA g10 hrow.2.2.1
theorem begin_run {t : Int} (ho : (beginA c who t).2 = 0) : ThereC c who ∧ RunA c who (beginA c who t).1 ∧ (beginA c who t).1.p = 1 ∧ cntB (beginA c who t).1.told = 0 := by
  by_cases h : ThereC c who ∧ 1 ≤ t ∧ t ≤ 1125899906842624
  rotate_left
  · rw [beginA, if_neg h] at ho; cases ho
  have hn := h.1.1.1
  have hw : 0 ≤ who ∧ who < c.n := h.1.2
  rw [beginA, if_pos h]
  refine ⟨h.1, ⟨⟨h.2.1, h.2.2, by show (1 : Int) ≤ 1; decide, by show (1 : Int) ≤ 2; decide⟩, ⟨by simp; omega, by simp; omega, by simp; omega⟩, getD_repA, fun v hv => ?_, fun v hv => ?_⟩, rfl, cntB_rep _⟩
  · rw [List.eq_of_mem_replicate hv]; exact ⟨by decide, by decide⟩
  · rw [List.eq_of_mem_replicate hv]; exact ⟨by decide, by decide⟩
end
end Go.Ab
