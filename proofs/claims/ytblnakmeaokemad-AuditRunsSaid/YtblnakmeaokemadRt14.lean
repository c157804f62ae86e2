/- Rights: what is put, taken and moved leaves books right; joined twice. -/
import Derived.Test.YtblnakmeaokemadRt13
set_option linter.unusedSimpArgs false
set_option linter.unusedVariables false
set_option linter.constructorNameAsVariable false
set_option maxRecDepth 100000
namespace Go.Ab
open Go Go.Proofs Go.RowKit

theorem rowAt_set {l : List RowD} {w k : Nat} {r : RowD} (hw : w < l.length) : rowAt (l.set w r) k = if k = w then r else rowAt l k := by
  simp only [rowAt, List.getD_eq_getElem?_getD, List.getElem?_set]
  by_cases h : w = k
  · subst h; simp [hw]
  · simp [h, Ne.symm h]
theorem isum_upd {f g : Nat → Int} {w n : Nat} (hw : w < n) (h : ∀ j, j ≠ w → g j = f j) : isum g n = isum f n + (g w - f w) := by
  have h1 : isum (fun j => g j - f j) n = g w - f w := isum_one (f := fun j => g j - f j) hw fun j _ hj => by simp only [h j hj]; omega
  rw [isum_sub] at h1
  omega
theorem came_set {l : List RowD} {w x : Nat} {r : RowD} (hw : w < l.length) : came (l.set w r) x l.length = came l x l.length + (r.o.getD x 0 - (rowAt l w).o.getD x 0) := by
  unfold came
  have := isum_upd (f := fun j => (rowAt l j).o.getD x 0) (g := fun j => (rowAt (l.set w r) j).o.getD x 0) hw fun j hj => by simp only [rowAt_set hw, if_neg hj]
  simp only [rowAt_set hw, if_pos] at this ⊢
  simpa using this
theorem net_set {l : List RowD} {w : Nat} {r : RowD} (hw : w < l.length) : net (l.set w r) l.length = net l l.length + ((r.i - r.u) - ((rowAt l w).i - (rowAt l w).u)) := by
  unfold net
  have := isum_upd (f := fun j => (rowAt l j).i - (rowAt l j).u) (g := fun j => (rowAt (l.set w r) j).i - (rowAt (l.set w r) j).u) hw fun j hj => by simp only [rowAt_set hw, if_neg hj]
  simp only [rowAt_set hw, if_pos] at this ⊢
  simpa using this
/-- Books with another row. -/
theorem rows_set {c : Conf} {l : List RowD} {w : Nat} {r : RowD} (hw : w < l.length) (h : RowsOk c l) (hr : MayR r.i r.u r.o c.n w ∧ r.i ≤ c.c) : RowsOk c (l.set w r) := by
  refine ⟨by rw [List.length_set]; exact h.1, fun k hk => ?_⟩
  rw [List.length_set] at hk
  rw [rowAt_set hw]
  by_cases e : k = w
  · subst e; simp only [if_pos]; exact hr
  · simp only [if_neg e]; exact h.2 k hk
theorem ofC_set {c : Conf} {l : List RowD} {w x : Nat} {r : RowD} (hw : w < l.length) : ofC c (l.set w r) x = shareC c x + (if x = w then r else rowAt l x).i + (came l x l.length + (r.o.getD x 0 - (rowAt l w).o.getD x 0)) - sentR (if x = w then r else rowAt l x).o - (if x = w then r else rowAt l x).u := by
  unfold ofC
  rw [List.length_set, came_set hw, rowAt_set hw]
theorem put_right {c : Conf} {l : List RowD} {w : Nat} {a : Int} (h : RightB c l) (hw : w < l.length) (ha : 1 ≤ a) (hc : (rowAt l w).i + a ≤ c.c) :
    RightB c (l.set w ⟨(rowAt l w).i + a, (rowAt l w).u, (rowAt l w).o⟩) ∧ net (l.set w ⟨(rowAt l w).i + a, (rowAt l w).u, (rowAt l w).o⟩) l.length = net l l.length + a := by
  have hcc := h.1.2.2.2.2.2.1
  obtain ⟨⟨p1, p2, p3, p4, p5, p6⟩, p7⟩ := h.2.1.2 w hw
  refine ⟨⟨h.1, rows_set hw h.2.1 ⟨⟨p1, p2, show Within ((rowAt l w).i + a) 1099511627776 from ⟨by unfold Within at p3; omega, by omega⟩, p4, p5, p6⟩, hc⟩, fun k hk => ?_⟩, ?_⟩
  · rw [List.length_set] at hk
    have := h.2.2 k hk
    rw [ofC_set hw]
    by_cases e : k = w
    · subst e
      simp only [if_pos]
      unfold ofC at this
      omega
    · simp only [if_neg e]
      unfold ofC at this
      omega
  · rw [net_set hw]; simp only; omega
theorem take_right {c : Conf} {l : List RowD} {w : Nat} {a : Int} (h : RightB c l) (hw : w < l.length) (ha : 1 ≤ a) (hc : a ≤ ofC c l w) (hu : (rowAt l w).u + a ≤ 1099511627776) :
    RightB c (l.set w ⟨(rowAt l w).i, (rowAt l w).u + a, (rowAt l w).o⟩) ∧ net (l.set w ⟨(rowAt l w).i, (rowAt l w).u + a, (rowAt l w).o⟩) l.length = net l l.length - a := by
  obtain ⟨⟨p1, p2, p3, p4, p5, p6⟩, p7⟩ := h.2.1.2 w hw
  refine ⟨⟨h.1, rows_set hw h.2.1 ⟨⟨p1, p2, p3, show Within ((rowAt l w).u + a) 1099511627776 from ⟨by unfold Within at p4; omega, hu⟩, p5, p6⟩, p7⟩, fun k hk => ?_⟩, ?_⟩
  · rw [List.length_set] at hk
    have := h.2.2 k hk
    rw [ofC_set hw]
    by_cases e : k = w
    · subst e
      simp only [if_pos]
      unfold ofC at this hc
      omega
    · simp only [if_neg e]
      unfold ofC at this
      omega
  · rw [net_set hw]; simp only; omega
theorem getD_set {o : List Int} {t k : Nat} {v : Int} (ht : t < o.length) : (o.set t v).getD k 0 = if k = t then v else o.getD k 0 := by
  simp only [List.getD_eq_getElem?_getD, List.getElem?_set]
  by_cases h : t = k
  · subst h; simp [ht]
  · simp [h, Ne.symm h]
theorem sent_set {o : List Int} {t : Nat} {v : Int} (hl : o.length ≤ 16) (h : ∀ x ∈ o, Within x 1125899906842624) (ht : t < o.length) (hv : Within v 1125899906842624) : sentR (o.set t v) = sentR o + (v - o.getD t 0) := by
  have h2 : ∀ x ∈ o.set t v, Within x 1125899906842624 := fun x hx => by
    rcases List.mem_or_eq_of_mem_set hx with hx | rfl
    · exact h x hx
    · exact hv
  rw [sent_isum (by simpa using hl) h2, sent_isum hl h, List.length_set]
  have := isum_upd (f := fun j => o.getD j 0) (g := fun j => (o.set t v).getD j 0) ht fun j hj => by simp only [getD_set ht, if_neg hj]
  simp only [getD_set ht, if_pos] at this ⊢
  exact this
theorem move_right {c : Conf} {l : List RowD} {w to : Nat} {a : Int} (h : RightB c l) (hw : w < l.length) (ht : to < l.length) (hne : to ≠ w) (ha : 1 ≤ a) (hc : a ≤ ofC c l w) (hm : (rowAt l w).o.getD to 0 + a ≤ 1125899906842624) :
    RightB c (l.set w ⟨(rowAt l w).i, (rowAt l w).u, (rowAt l w).o.set to ((rowAt l w).o.getD to 0 + a)⟩) ∧ net (l.set w ⟨(rowAt l w).i, (rowAt l w).u, (rowAt l w).o.set to ((rowAt l w).o.getD to 0 + a)⟩) l.length = net l l.length ∧
      ofC c (l.set w ⟨(rowAt l w).i, (rowAt l w).u, (rowAt l w).o.set to ((rowAt l w).o.getD to 0 + a)⟩) to = ofC c l to + a := by
  obtain ⟨⟨p1, p2, p3, p4, p5, p6⟩, p7⟩ := h.2.1.2 w hw
  have hr := h.2.1.row h.1 hw
  have hto : to < (rowAt l w).o.length := by omega
  have hx := within_getD hr.2.2.2.2.1 to
  unfold Within at hx
  have hv : Within ((rowAt l w).o.getD to 0 + a) 1125899906842624 := ⟨by omega, hm⟩
  have hs := sent_set (by omega) hr.2.2.2.2.1 hto hv
  have hof : ∀ k, ofC c (l.set w ⟨(rowAt l w).i, (rowAt l w).u, (rowAt l w).o.set to ((rowAt l w).o.getD to 0 + a)⟩) k = if k = w then ofC c l w - a else if k = to then ofC c l to + a else ofC c l k := fun k => by
    rw [ofC_set hw]
    by_cases e : k = w
    · subst e
      simp only [if_pos, hs, getD_set hto, if_neg (Ne.symm hne)]
      unfold ofC; omega
    · simp only [if_neg e, getD_set hto]
      by_cases e2 : k = to
      · subst e2
        simp only [if_pos]
        unfold ofC; omega
      · simp only [if_neg e2]
        unfold ofC; omega
  refine ⟨⟨h.1, rows_set hw h.2.1 ⟨⟨p1, by simpa using p2, p3, p4, ?_, fun v hv' => ?_⟩, p7⟩, fun k hk => ?_⟩, ?_, ?_⟩
  · have : ((w : Int)).toNat = w := by omega
    rw [this] at p5 ⊢
    rw [getD_set hto, if_neg (Ne.symm hne)]
    exact p5
  · rcases List.mem_or_eq_of_mem_set hv' with hv' | rfl
    · exact p6 v hv'
    · exact hv
  · rw [List.length_set] at hk
    have h1 := h.2.2 k hk
    have h2 := h.2.2 w hw
    have h3 := h.2.2 to ht
    rw [hof]
    split
    · omega
    · split <;> omega
  · rw [net_set hw]; simp only; omega
  · rw [hof, if_neg hne, if_pos rfl]
theorem joinD_comm (a b : RowD) : joinD a b = joinD b a := by
  simp only [joinD, Int.max_comm a.i, Int.max_comm a.u]
  congr 1
  exact List.zipWith_comm_of_comm Int.max_comm
theorem zipmax_self (o : List Int) : List.zipWith max o o = o := by
  induction o with
  | nil => rfl
  | cons a o ih => simp [ih]
theorem joinD_self (a : RowD) : joinD a a = a := by simp [joinD, zipmax_self]
theorem zipmax_twice : ∀ (o p : List Int), List.zipWith max (List.zipWith max o p) p = List.zipWith max o p
  | [], _ => by simp
  | _ :: _, [] => by simp
  | a :: o, b :: p => by
    simp only [List.zipWith_cons_cons, zipmax_twice o p]
    congr 1
    omega
theorem joinD_twice (a b : RowD) : joinD (joinD a b) b = joinD a b := by
  simp only [joinD, zipmax_twice]
  congr 1 <;> omega
theorem joinB_comm : ∀ (a b : List RowD), joinB a b = joinB b a := fun a b => List.zipWith_comm_of_comm joinD_comm
theorem joinB_self (a : List RowD) : joinB a a = a := by
  unfold joinB
  induction a with
  | nil => rfl
  | cons x a ih => simp [ih, joinD_self]
theorem joinB_twice : ∀ (a b : List RowD), joinB (joinB a b) b = joinB a b
  | [], _ => by simp [joinB]
  | _ :: _, [] => by simp [joinB]
  | x :: a, y :: b => by
    have := joinB_twice a b
    unfold joinB at this ⊢
    simp only [List.zipWith_cons_cons, joinD_twice, this]
theorem joinR_comm (c : Conf) (a b : List RowD) : joinR c a b = joinR c b a := by
  unfold joinR
  rw [joinB_comm a b]
  by_cases h1 : RightB c a <;> by_cases h2 : RightB c b <;> simp [h1, h2]
theorem joinR_self (c : Conf) (a : List RowD) : joinR c a a = if RightB c a then (a, 0) else ([], 1) := by
  unfold joinR
  rw [joinB_self]
  by_cases h : RightB c a <;> simp [h]
theorem joinR_twice {c : Conf} {a b : List RowD} (h : (joinR c a b).2 = 0) : joinR c (joinR c a b).1 b = (joinB a b, 0) ∧ (joinR c a b).1 = joinB a b ∧ RightB c (joinB a b) := by
  unfold joinR at h
  split at h
  · simp at h
  · rename_i h1
    split at h
    · simp at h
    · rename_i h2
      have h2' : RightB c (joinB a b) := Decidable.not_not.1 h2
      have h1' : RightB c a ∧ RightB c b := Decidable.not_not.1 h1
      have e : joinR c a b = (joinB a b, 0) := by rw [joinR, if_neg h1, if_neg h2]
      refine ⟨?_, by rw [e], h2'⟩
      rw [e]
      simp only
      rw [joinR, joinB_twice, if_neg (by simp [h2', h1'.2]), if_neg (by simp [h2'])]
end Go.Ab
