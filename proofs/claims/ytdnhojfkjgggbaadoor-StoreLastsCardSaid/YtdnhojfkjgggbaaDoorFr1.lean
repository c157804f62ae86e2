/- Frames: texts in a row, each with its sum (plain laws). -/
import Derived.Test.YtdnhojfkjgggbaaDoorCr1
import Derived.Test.YtdnhojfkjgggbaaDoorNb2
set_option linter.unusedSimpArgs false
set_option linter.unusedVariables false
set_option linter.constructorNameAsVariable false
set_option maxRecDepth 100000
namespace Go.Ab
open Go Go.Proofs Go.RowKit

noncomputable def tq (b : List UInt8) : Nat × List UInt8 × Bool :=
  ⟨Classical.choose (takeIs_ex b), Classical.choose (Classical.choose_spec (takeIs_ex b)), Classical.choose (Classical.choose_spec (Classical.choose_spec (takeIs_ex b)))⟩
theorem tq_is (b : List UInt8) : TakeIs b (tq b).1 (tq b).2.1 (tq b).2.2 := Classical.choose_spec (Classical.choose_spec (Classical.choose_spec (takeIs_ex b)))
theorem tq_lt (b : List UInt8) : (tq b).1 < 18446744073709551616 := by
  rcases tq_is b with ⟨_, h, _⟩ | ⟨_, h, _⟩
  · exact h
  · rw [h]; decide
theorem tq_len (b : List UInt8) : (tq b).2.1.length ≤ b.length := by
  rcases tq_is b with ⟨_, _, h⟩ | ⟨_, _, h, _⟩
  · have := congrArg List.length h
    rw [List.length_append] at this; omega
  · rw [h]; simp
theorem tq_put {v : Nat} {r : List UInt8} (h : v < 18446744073709551616) : tq (putL v ++ r) = (v, r, true) := by
  obtain ⟨h1, h2, h3⟩ := (tq_is (putL v ++ r)).uniq (.inl ⟨rfl, h, rfl⟩)
  exact Prod.ext h1 (Prod.ext h2 h3)
/-- A text's bytes. -/
def textL (p : List UInt8) : List UInt8 := putL p.length ++ p
/-- A text with which bytes begin. -/
noncomputable def txT (b : List UInt8) : List UInt8 × List UInt8 × Bool :=
  if (tq b).2.2 = true ∧ (tq b).1 ≤ (tq b).2.1.length then ((tq b).2.1.take (tq b).1, (tq b).2.1.drop (tq b).1, true) else ([], [], false)
theorem txT_put {p r : List UInt8} (h : p.length < 18446744073709551616) : txT (textL p ++ r) = (p, r, true) := by
  have e := tq_put (r := p ++ r) h
  have e2 : textL p ++ r = putL p.length ++ (p ++ r) := List.append_assoc _ _ _
  rw [e2, txT, e, if_pos ⟨rfl, by simp⟩]
  simp
theorem txT_of {b : List UInt8} (h : (txT b).2.2 = true) : b = textL (txT b).1 ++ (txT b).2.1 := by
  unfold txT at h ⊢
  split
  · rename_i g
    rcases tq_is b with ⟨_, _, h2⟩ | ⟨h1, _⟩
    · unfold textL
      rw [List.length_take, Nat.min_eq_left g.2, List.append_assoc, List.take_append_drop]
      exact h2
    · rw [g.1] at h1; cases h1
  · rename_i g
    rw [if_neg g] at h; cases h
theorem txT_len (b : List UInt8) : (txT b).2.1.length ≤ b.length := by
  unfold txT
  split
  · have := tq_len b
    simp only [List.length_drop]; omega
  · simp
/-- A sum, as four bytes. -/
def four (n : Nat) : List UInt8 := [UInt8.ofNat (n % 256), UInt8.ofNat (n / 256 % 256), UInt8.ofNat (n / 65536 % 256), UInt8.ofNat (n / 16777216 % 256)]
def sum4 (b : List UInt8) : List UInt8 := four (crcB b).toNat
theorem sum4_len (b : List UInt8) : (sum4 b).length = 4 := rfl
def frL (p : List UInt8) : List UInt8 := textL p ++ sum4 (textL p)
theorem textL_len (p : List UInt8) : (textL p).length = (putL p.length).length + p.length := by rw [textL, List.length_append]
theorem frL_len (p : List UInt8) : (frL p).length = (putL p.length).length + p.length + 4 := by rw [frL, List.length_append, textL_len, sum4_len]
theorem putL_pos (n : Nat) : 0 < (putL n).length := by
  cases h : putL n with
  | nil => exact absurd h (putL_ne n)
  | cons => simp
/-- A frame with which bytes begin. -/
noncomputable def oneT (b : List UInt8) : List UInt8 × Nat :=
  if (txT b).2.2 = true ∧ 4 ≤ (txT b).2.1.length ∧ sum4 (b.take (b.length - (txT b).2.1.length)) = (txT b).2.1.take 4 then ((txT b).1, b.length - (txT b).2.1.length + 4) else ([], 0)
theorem oneT_put {p r : List UInt8} (h : p.length < 18446744073709551616) : oneT (frL p ++ r) = (p, (frL p).length) := by
  have e := txT_put (r := sum4 (textL p) ++ r) h
  have e2 : frL p ++ r = textL p ++ (sum4 (textL p) ++ r) := List.append_assoc _ _ _
  have e3 : (textL p ++ (sum4 (textL p) ++ r)).length - (sum4 (textL p) ++ r).length = (textL p).length := by rw [List.length_append]; omega
  have e4 : (sum4 (textL p) ++ r).take 4 = sum4 (textL p) := by rw [← sum4_len (textL p), List.take_left]
  rw [e2, oneT, e]
  dsimp only
  rw [e3, List.take_left, e4, if_pos ⟨rfl, by rw [List.length_append, sum4_len]; omega, rfl⟩, frL, List.length_append, sum4_len]
theorem oneT_of {b : List UInt8} (h : (oneT b).2 ≠ 0) : b = frL (oneT b).1 ++ b.drop (oneT b).2 ∧ (oneT b).2 = (frL (oneT b).1).length := by
  unfold oneT at h ⊢
  split
  · rename_i g
    obtain ⟨g1, g2, g3⟩ := g
    have e := txT_of g1
    generalize txT b = T at *
    obtain ⟨p, r, o⟩ := T
    dsimp only at *
    have hl : b.length - r.length = (textL p).length := by rw [e, List.length_append]; omega
    have ht : b.take (textL p).length = textL p := by rw [e, List.take_left]
    rw [hl, ht] at g3
    have hd : b.drop ((textL p).length + 4) = r.drop 4 := by rw [e, ← List.drop_drop, List.drop_left]
    refine ⟨?_, by rw [hl, frL, List.length_append, sum4_len]⟩
    rw [hl, hd, frL, List.append_assoc, g3, List.take_append_drop]
    exact e
  · rename_i g
    rw [if_neg g] at h; exact absurd rfl h
/-- Frames in a row. -/
def frs : List (List UInt8) → List UInt8
  | [] => []
  | p :: l => frL p ++ frs l
theorem frs_append : ∀ a b, frs (a ++ b) = frs a ++ frs b
  | [], b => rfl
  | p :: a, b => by simp only [List.cons_append, frs, frs_append a b, List.append_assoc]
theorem frs_len : ∀ l, 5 * l.length ≤ (frs l).length
  | [] => Nat.le_refl _
  | p :: l => by
    have := frs_len l
    have := frL_len p
    have := putL_pos p.length
    simp only [frs, List.length_append, List.length_cons]; omega
def Smalls (l : List (List UInt8)) : Prop := ∀ p ∈ l, p.length < 18446744073709551616
/-- What bytes are scanned to. -/
def ScanIs (b : List UInt8) (l : List (List UInt8)) : Prop := ∃ r, b = frs l ++ r ∧ (oneT r).2 = 0 ∧ Smalls l
theorem scan_uniq : ∀ {l m : List (List UInt8)} {r s : List UInt8}, frs l ++ r = frs m ++ s → (oneT r).2 = 0 → (oneT s).2 = 0 → Smalls l → Smalls m → l = m
  | [], [], _, _, _, _, _, _, _ => rfl
  | [], q :: m, r, s, h, hr, hs, _, hm => by
    have : r = frL q ++ (frs m ++ s) := by simpa [frs] using h
    rw [this, oneT_put (hm q (by simp))] at hr
    have := frL_len q
    dsimp only at hr; omega
  | p :: l, [], r, s, h, hr, hs, hl, _ => by
    have : frL p ++ (frs l ++ r) = s := by simpa [frs] using h
    rw [← this, oneT_put (hl p (by simp))] at hs
    have := frL_len p
    dsimp only at hs; omega
  | p :: l, q :: m, r, s, h, hr, hs, hl, hm => by
    have e1 : frL p ++ (frs l ++ r) = frL q ++ (frs m ++ s) := by simpa [frs] using h
    have a1 := oneT_put (r := frs l ++ r) (hl p (by simp))
    have a2 := oneT_put (r := frs m ++ s) (hm q (by simp))
    rw [e1, a2] at a1
    simp only [Prod.mk.injEq] at a1
    obtain ⟨rfl, _⟩ := a1
    rw [scan_uniq (List.append_cancel_left e1) hr hs (fun x hx => hl x (by simp [hx])) (fun x hx => hm x (by simp [hx]))]
theorem ScanIs.uniq {b : List UInt8} {l m : List (List UInt8)} (h : ScanIs b l) (k : ScanIs b m) : l = m := by
  obtain ⟨r, h1, h2, h3⟩ := h
  obtain ⟨s, k1, k2, k3⟩ := k
  exact scan_uniq (h1.symm.trans k1) h2 k2 h3 k3
theorem oneT_small (b : List UInt8) : (oneT b).1.length < 18446744073709551616 := by
  unfold oneT
  split
  · show (txT b).1.length < _
    unfold txT
    split
    · have := tq_lt b
      simp only [List.length_take]; omega
    · simp
  · simp
theorem scan_ex : ∀ (n : Nat) (b : List UInt8), b.length ≤ n → ∃ l, ScanIs b l
  | n, b, hn => by
    by_cases h : (oneT b).2 = 0
    · exact ⟨[], b, rfl, h, fun p hp => by cases hp⟩
    · obtain ⟨h1, h2⟩ := oneT_of h
      have h3 := frL_len (oneT b).1
      have h4 := congrArg List.length h1
      rw [List.length_append] at h4
      match n, hn with
      | 0, hn => omega
      | n + 1, hn =>
        obtain ⟨l, r, k1, k2, k3⟩ := scan_ex n (b.drop (oneT b).2) (by omega)
        refine ⟨(oneT b).1 :: l, r, ?_, k2, fun p hp => ?_⟩
        · show b = (frL (oneT b).1 ++ frs l) ++ r
          rw [List.append_assoc, ← k1]; exact h1
        · rcases List.mem_cons.1 hp with rfl | hp
          · exact oneT_small b
          · exact k3 p hp
noncomputable def scP (b : List UInt8) : List (List UInt8) := Classical.choose (scan_ex b.length b (Nat.le_refl _))
theorem scP_is (b : List UInt8) : ScanIs b (scP b) := Classical.choose_spec (scan_ex b.length b (Nat.le_refl _))
theorem scP_eq {b : List UInt8} {l : List (List UInt8)} (h : ScanIs b l) : scP b = l := (scP_is b).uniq h
end Go.Ab
