/- Audits: where all tell twice of the same books: the law. -/
import Derived.Test.YtblnakmeaokemadAd5
import Derived.Test.YtblnakmeaokemadAd7
set_option linter.unusedSimpArgs false
set_option linter.unusedVariables false
set_option linter.constructorNameAsVariable false
set_option maxRecDepth 100000
namespace Go.Ab
open Go Go.Proofs Go.RowKit

theorem getD_setA {α : Type} {l : List α} {k j : Nat} {v d : α} (hk : k < l.length) : (l.set k v).getD j d = if j = k then v else l.getD j d := by
  rw [List.getD_eq_getElem?_getD]
  by_cases e : j = k
  · rw [if_pos e, e, List.getElem?_set_self hk]; rfl
  · rw [if_neg e, List.getElem?_set_ne (Ne.symm e), ← List.getD_eq_getElem?_getD]
theorem getD_repA {α : Type} {n j : Nat} {v : α} : (List.replicate n v).getD j v = v := by
  rw [List.getD_eq_getElem?_getD, List.getElem?_replicate]
  split <;> rfl
theorem amts_setA {l : List Int} {k : Nat} {v : Int} (h : Amts l) (hv : Within v 1099511627776) : Amts (l.set k v) := fun u hu => by
  rcases List.mem_or_eq_of_mem_set hu with hu | rfl
  · exact h _ hu
  · exact hv
/-- Told by the first k, in a phase. -/
structure MostI (c : Conf) (who t : Int) (l : List RowD) (p : Int) (k : Nat) (a : AudD) : Prop where
  y : a.y = t
  ph : a.p = p
  mv : a.mv = false
  l1 : a.told.length = l.length
  l2 : a.use.length = l.length
  l3 : a.inc.length = l.length
  tl : ∀ j, j < l.length → a.told.getD j false = decide (j < k ∧ (j : Int) ≠ who)
  us : ∀ j, j < l.length → (p = 2 ∨ (j < k ∧ (j : Int) ≠ who)) → a.use.getD j 0 = (rowAt l j).u
  ic : ∀ j, j < l.length → p = 2 → j < k → (j : Int) ≠ who → a.inc.getD j 0 = (rowAt l j).i
  au : Amts a.use
  ai : Amts a.inc
section
variable {c : Conf} {who t p : Int} {l : List RowD} {k : Nat} {a : AudD}
theorem MostI.lenA (h : MostI c who t l p k a) (hr : Lens l) : LenA a := by
  have h1 := h.l1; have h2 := h.l2; have h3 := h.l3; have := hr.1
  exact ⟨by omega, by omega, by omega⟩
theorem MostI.run (h : MostI c who t l p k a) (hr : RightB c l) (hw : 0 ≤ who ∧ who < c.n) (ht : 1 ≤ t ∧ t ≤ 1125899906842624) (hp : p = 1 ∨ p = 2) : RunA c who a := by
  have hn := hr.2.1.1
  have h1 := h.l1; have h2 := h.l2; have h3 := h.l3; have hy := h.y; have hpp := h.ph
  refine ⟨⟨by omega, by omega, by omega, by omega⟩, ⟨by omega, by omega, by omega⟩, ?_, h.au, h.ai⟩
  rw [h.tl _ (by omega)]
  exact decide_eq_false fun g => g.2 (by omega)
theorem MostI.may (h : MostI c who t l p k a) (hr : RightB c l) (hw : 0 ≤ who ∧ who < c.n) (ht : 1 ≤ t ∧ t ≤ 1125899906842624) (hp : p = 1 ∨ p = 2) : MayA c who a :=
  ⟨⟨hr.1, hw⟩, .inr (h.run hr hw ht hp)⟩
theorem MostI.some (h : MostI c who t l p k a) (ht : 1 ≤ t) : ¬ NoneA a := fun g => by have := g.1.1; have := h.y; omega
theorem MostI.skip (h : MostI c who t l p k a) (hk : (k : Int) = who) : MostI c who t l p (k + 1) a :=
  ⟨h.y, h.ph, h.mv, h.l1, h.l2, h.l3, fun j hj => by
    rw [h.tl j hj]
    refine decide_eq_decide.2 ⟨fun g => ⟨by omega, g.2⟩, fun g => ⟨?_, g.2⟩⟩
    have := g.2; omega, fun j hj g => h.us j hj (g.imp_right fun g => ⟨by have := g.2; omega, g.2⟩), fun j hj g1 g2 g3 => h.ic j hj g1 (by omega) g3, h.au, h.ai⟩
theorem MostI.step (h : MostI c who t l p k a) (hr : RightB c l) (hk : k < l.length) (hw : (k : Int) ≠ who) (hp : p = 1 ∨ p = 2) : MostI c who t l p (k + 1) (toldD a k (rowAt l k)) := by
  have hrow := hr.2.1.row hr.1 hk
  have hpp := h.ph
  have h1 := h.l1; have h2 := h.l2; have h3 := h.l3
  have htl : ∀ j, j < l.length → (a.told.set k true).getD j false = decide (j < k + 1 ∧ (j : Int) ≠ who) := fun j hj => by
    rw [getD_setA (by omega)]
    by_cases e : j = k
    · subst e
      rw [if_pos rfl]; exact (decide_eq_true ⟨by omega, hw⟩).symm
    · rw [if_neg e, h.tl j hj]
      exact decide_eq_decide.2 ⟨fun g => ⟨by omega, g.2⟩, fun g => ⟨by omega, g.2⟩⟩
  rcases hp with hp | hp
  · have ha : a.p = 1 := by omega
    have he : toldD a k (rowAt l k) = ⟨a.y, a.p, a.told.set k true, a.use.set k (rowAt l k).u, a.inc, a.mv⟩ := by simp only [toldD, if_pos ha]
    rw [he]
    refine ⟨h.y, h.ph, h.mv, by simpa using h1, by simpa using h2, h3, htl, fun j hj g => ?_, fun j hj g => by omega, amts_setA h.au hrow.2.2.2.1, h.ai⟩
    show (a.use.set k _).getD j 0 = _
    rw [getD_setA (by omega)]
    by_cases e : j = k
    · rw [if_pos e, e]
    · rw [if_neg e]; exact h.us j hj (.inr ⟨by omega, by omega⟩)
  · have ha : ¬ a.p = 1 := by omega
    have hu := h.us k hk (.inl hp)
    have he : toldD a k (rowAt l k) = ⟨a.y, a.p, a.told.set k true, a.use, a.inc.set k (rowAt l k).i, a.mv⟩ := by
      simp only [toldD, if_neg ha, hu, ne_eq, not_true_eq_false, decide_false, Bool.or_false]
    rw [he]
    refine ⟨h.y, h.ph, h.mv, by simpa using h1, h2, by simpa using h3, htl, fun j hj _ => h.us j hj (.inl hp), fun j hj g1 g2 g3 => ?_, h.au, amts_setA h.ai hrow.2.2.1⟩
    show (a.inc.set k _).getD j 0 = _
    rw [getD_setA (by omega)]
    by_cases e : j = k
    · rw [if_pos e, e]
    · rw [if_neg e]; exact h.ic j hj hp (by omega) g3
theorem MostI.all (h : MostI c who t l p l.length a) (ht : 1 ≤ t) : AllA who a := ⟨fun j hj hw => by rw [h.tl j (by rw [← h.l1]; exact hj)]; exact decide_eq_true ⟨by rw [← h.l1]; exact hj, hw⟩, h.some ht⟩
theorem MostI.next1 (h : MostI c who t l 1 l.length a) (hr : RightB c l) (hw : 0 ≤ who ∧ who < c.n) (ht : 1 ≤ t ∧ t ≤ 1125899906842624) :
    ∃ b, nextA c who a l = (b, true) ∧ MostI c who t l 2 0 b := by
  have hn := hr.2.1.1
  have h1 := h.l1; have h2 := h.l2; have h3 := h.l3
  refine ⟨⟨a.y, 2, List.replicate a.told.length false, a.use.set who.toNat (rowAt l who.toNat).u, a.inc, a.mv⟩, by rw [nextA, if_pos ⟨h.may hr hw ht (.inl rfl), hr⟩, if_pos ⟨h.ph, h.all ht.1⟩], h.y, rfl, h.mv, by simpa using h1, by simpa using h2, h3, fun j hj => ?_, fun j hj _ => ?_, fun j hj _ g => by omega, amts_setA h.au (hr.2.1.row hr.1 (w := who.toNat) (by omega)).2.2.2.1, h.ai⟩
  · show (List.replicate _ false).getD j false = _
    rw [getD_repA]
    exact (decide_eq_false fun g => by omega).symm
  · show (a.use.set _ _).getD j 0 = _
    rw [getD_setA (by omega)]
    by_cases e : j = who.toNat
    · rw [if_pos e, e]
    · rw [if_neg e]; exact h.us j hj (.inr ⟨hj, by omega⟩)
theorem MostI.next2 (h : MostI c who t l 2 l.length a) (hr : RightB c l) (hw : 0 ≤ who ∧ who < c.n) (ht : 1 ≤ t ∧ t ≤ 1125899906842624) : nextA c who a l = (a, false) := by
  rw [nextA, if_pos ⟨h.may hr hw ht (.inr rfl), hr⟩, if_neg fun g => by have := g.1; have := h.ph; omega]
theorem MostI.ends (h : MostI c who t l 2 l.length a) (hr : RightB c l) (hw : 0 ≤ who ∧ who < c.n) (ht : 1 ≤ t ∧ t ≤ 1125899906842624) : endsA c who a l = (valC c l, true, true) := by
  have hn := hr.2.1.1
  have e : isum (runI who a l) l.length = net l l.length := by
    unfold net
    refine isum_congr fun j hj => ?_
    unfold runI
    rw [h.us j hj (.inl rfl)]
    split
    · rfl
    · rename_i g; rw [h.ic j hj rfl hj g]
  rw [endsA, if_pos ⟨h.may hr hw ht (.inr rfl), hr, h.ph, h.all ht.1⟩, if_neg, valC, if_pos hr, e]
  rintro (g | g)
  · rw [h.mv] at g; cases g
  · exact g (h.us _ (by omega) (.inl rfl))
/-- The message of one. -/
def mostM (c : Conf) (who t p : Int) (l : List RowD) (k : Nat) : MailD := ⟨k, who, 1, l, 0, 0, 0, 0, 0, 0, (List.replicate c.n.toNat (0, 0)).set who.toNat (t, p)⟩
theorem mostM_may (hr : RightB c l) (hk : k < l.length) (hw : 0 ≤ who ∧ who < c.n) (hne : (k : Int) ≠ who) (ht : 1 ≤ t ∧ t ≤ 1125899906842624) (hp : p = 1 ∨ p = 2) : MayM c (mostM c who t p l k) := by
  have hn := hr.2.1.1
  have hmc := hr.1
  have hat : ∀ j, lookAt (mostM c who t p l k).e j = if j = who.toNat then (t, p) else (0, 0) := fun j => by
    show ((List.replicate _ _).set _ _).getD j (0, 0) = _
    rw [getD_setA (by simp; omega), getD_repA]
  refine ⟨⟨hmc, by show (0 : Int) ≤ k; omega, by show (k : Int) < c.n; omega⟩, hw, hne, by show (1 : Int) ≤ 1; decide, hr, by simp [mostM]; omega, ?_, fun j hj => ?_, ?_⟩
  · rw [hat, if_neg]
    show ¬ ((k : Int).toNat) = who.toNat
    omega
  · rw [hat]
    split
    · exact .inr ⟨ht.1, ht.2, hp⟩
    · exact .inl ⟨rfl, rfl⟩
  · refine ⟨⟨by show (0 : Int) ≤ 1; decide, by show (1 : Int) ≤ _; decide⟩, .inl ⟨rfl, rfl, rfl⟩, ⟨by show (0 : Int) ≤ 0; decide, ?_⟩, .inl ⟨rfl, rfl⟩⟩
    show (0 : Int) ≤ c.r
    unfold MayC at hmc; omega
theorem MostI.tell (h : MostI c who t l p k a) (hr : RightB c l) (hk : k < l.length) (hw : 0 ≤ who ∧ who < c.n) (hne : (k : Int) ≠ who) (ht : 1 ≤ t ∧ t ≤ 1125899906842624) (hp : p = 1 ∨ p = 2) :
    tellA c who a (mostM c who t p l k) = (toldD a k (rowAt l k), 0) := by
  have hn := hr.2.1.1
  have hat : lookAt (mostM c who t p l k).e who.toNat = (t, p) := by
    show ((List.replicate _ _).set _ _).getD _ (0, 0) = _
    rw [getD_setA (by simp; omega), if_pos rfl]
  rw [tellA, if_pos ⟨h.may hr hw ht hp, mostM_may hr hk hw hne ht hp, rfl⟩, if_neg]
  · rfl
  · rintro (g | g | g)
    · exact h.some ht.1 g
    · exact g (by rw [hat]; exact ⟨h.y.symm, h.ph.symm⟩)
    · rw [show (mostM c who t p l k).f.toNat = k from rfl, h.tl k hk] at g
      have := of_decide_eq_true g; omega
end
theorem MostI.start {c : Conf} {who t : Int} {l : List RowD} (hr : RightB c l) (hw : 0 ≤ who ∧ who < c.n) (ht : 1 ≤ t ∧ t ≤ 1125899906842624) : ∃ a, beginA c who t = (a, 0) ∧ MostI c who t l 1 0 a := by
  have hn := hr.2.1.1
  refine ⟨_, by rw [beginA, if_pos ⟨⟨hr.1, hw⟩, ht.1, ht.2⟩], rfl, rfl, rfl, by simp; omega, by simp; omega, by simp; omega, fun j hj => ?_, fun j hj g => by omega, fun j hj g => by omega, fun v hv => ?_, fun v hv => ?_⟩
  · show (List.replicate _ false).getD j false = _
    rw [getD_repA]; exact (decide_eq_false fun g => by omega).symm
  · rw [List.eq_of_mem_replicate hv]; exact ⟨by decide, by decide⟩
  · rw [List.eq_of_mem_replicate hv]; exact ⟨by decide, by decide⟩
end Go.Ab
