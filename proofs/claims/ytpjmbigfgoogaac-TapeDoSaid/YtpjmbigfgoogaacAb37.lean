/- Drawn regions in which variables come to be: their walk. -/
import Derived.Test.YtpjmbigfgoogaacAb36
set_option linter.unusedVariables false
set_option linter.constructorNameAsVariable false
set_option linter.unusedSimpArgs false
namespace Go.Ab
open Go Go.RowKit

/-- The names still set aside. -/
def pdOf : List Nat → List Nat → List Nat
  | c :: cs, x :: xs => bif Nat.beq c 4 then x :: pdOf cs xs else pdOf cs xs
  | _, _ => []
theorem pdF_cons {c x : Nat} {hv xs : List Nat} : ∀ (n i : Nat), pdF (c :: hv) (x :: xs) (i + 1) n = pdF hv xs i n
  | 0, _ => rfl
  | n + 1, i => by rw [pdF, pdF, pdF_cons n (i + 1)]; rfl
theorem pdF_of : ∀ {hv xs : List Nat}, hv.length = xs.length → pdF hv xs 0 hv.length = pdOf hv xs
  | [], [], _ => rfl
  | c :: hv, x :: xs, h => by
    rw [List.length_cons, pdF, pdOf, pdF_cons, pdF_of (by simpa using h)]; rfl
  | [], _ :: _, h => by cases h
  | _ :: _, [], h => by cases h
def make4 (P : Program) (tab : Tab) (x : Nat) (K : ASt → Prop) (dst : Option Tmp) (s : ASt) : Op → Prop
  | .alloc T => tiK tab T fun ti => (ti.k.agg = true ∨ 0 < ti.sz) ∧ Cells (zeroAV ti) ∧ setK s K dst (.p x 0 0 1) (s.m.put x ⟨T, (zeroAV ti).cells.length, [zeroAV ti]⟩)
  | _ => False
def make5 (P : Program) (tab : Tab) (x : Nat) (K : ASt → Prop) (dst : Option Tmp) (s : ASt) : Op → Prop
  | .buildSlice T n ps => n = 0 ∧ ps.toList = [] ∧ tiK tab T fun tt => slK tt.k fun e => tiK tab e fun _ => setK s K dst (.s x 0 0) s.m
  | _ => False
def look4 (P : Program) (tab : Tab) (pd : List Nat) : Nat → (ASt → Prop) → Option Tmp → Op → ASt → Prop
  | 1, K, dst, op, s => ∃ r M', (∀ β, opX P tab ⟨s.sl, ovP β pd s.m, s.N⟩ (fun a M2 => a = r ∧ M2 = ovP β pd M') op) ∧ setK s K dst r M'
  | 2, K, dst, op, s => ∃ r, (∀ β, opX P tab ⟨s.sl, ovP β pd s.m, s.N⟩ (fun a M2 => a = r ∧ M2 = ovP β pd s.m) op) ∧ setK s K dst r s.m
  | c, K, dst, op, s => stepS P tab c K dst op s
def stepS4 (P : Program) (tab : Tab) (pd : List Nat) (c x : Nat) (K : ASt → Prop) (dst : Option Tmp) (op : Op) (s : ASt) : Prop :=
  match c with
  | 4 => make4 P tab x K dst s op
  | 5 => make5 P tab x K dst s op
  | c => match pd with
    | [] => stepS P tab c K dst op s
    | p :: pd => look4 P tab (p :: pd) c K dst op s
def drS4 (P : Program) (tab : Tab) (ops : Array Oper) : List Oper → List Nat → List Nat → (ASt → Prop) → ASt → Prop
  | [], [], [], K, s => K s
  | o :: l, c :: cs, x :: xs, K, s => guardK ops s o.guard (stepS4 P tab (pdOf cs xs) c x (drS4 P tab ops l cs xs K) o.dst o.op s) (c ≠ 4 ∧ setK s (drS4 P tab ops l cs xs K) o.dst (.t []) s.m) ∧ (o.guard = none ∨ c ≠ 4)
  | _, _, _, _, _ => False
theorem Trace4.cons {P : Program} {tab : Tab} {ops : Array Oper} {N : Nat} {o : Oper} {l : List Oper} {c x : Nat} {hv xs : List Nat} {sl : Slots} {M M' : Mem} {r : AV} {fb : Blk} {K : ASt → Prop} {pd : List Nat}
    (hp : pd = pdF hv xs 0 l.length) (h1 : Step4 P tab ops N pd c x o sl M r M' fb) (h2 : Trace4 P tab ops N l hv xs (putO sl o.dst r) M' K) : Trace4 P tab ops N (o :: l) (c :: hv) (x :: xs) sl M K := by
  obtain ⟨slA, mA, rA, fA, e1, e2, e3, e4⟩ := h2
  refine ⟨fun i => i.casesOn sl slA, fun i => i.casesOn M mA, fun i => i.casesOn r rA, fun i => i.casesOn fb fA, rfl, rfl, fun i hi => ?_, e4⟩
  cases i with
  | zero =>
    simp only [List.getD_cons_zero, List.getElem_cons_zero]
    refine ⟨?_, e1⟩
    rw [List.length_cons, show l.length + 1 - (0 + 1) = l.length by omega, pdF_cons, ← hp]
    show Step4 P tab ops N pd c x o sl M r (mA 0) fb
    rw [e2]; exact h1
  | succ i =>
    have := e3 i (by simpa using hi)
    rw [pdF_cons, List.length_cons, show l.length + 1 - (i + 1 + 1) = l.length - (i + 1) by omega]
    exact this
theorem look4_else {P : Program} {tab : Tab} {pd : List Nat} {c : Nat} {K : ASt → Prop} {dst : Option Tmp} {op : Op} {s : ASt} (h1 : c ≠ 1) (h2 : c ≠ 2) : look4 P tab pd c K dst op s ↔ stepS P tab c K dst op s := by
  unfold look4
  split
  · exact absurd rfl h1
  · exact absurd rfl h2
  · exact .rfl
theorem step_look {P : Program} {tab : Tab} {ops : Array Oper} {N : Nat} {o : Oper} {pd : List Nat} {c x : Nat} {sl : Slots} {m : Mem} {K : ASt → Prop} (n4 : c ≠ 4) (n5 : c ≠ 5) (h : match pd with
    | [] => stepS P tab c K o.dst o.op ⟨sl, m, N⟩
    | p :: pd => look4 P tab (p :: pd) c K o.dst o.op ⟨sl, m, N⟩) (hg : Gd ops N sl o.guard true) :
    ∃ r M' fb, Step4 P tab ops N pd c x o sl m r M' fb ∧ K ⟨putO sl o.dst r, M', N⟩ := by
  have zero : c ≠ 1 → c ≠ 2 → stepS P tab c K o.dst o.op ⟨sl, m, N⟩ → ∃ r M' fb, Step4 P tab ops N pd c x o sl m r M' fb ∧ K ⟨putO sl o.dst r, M', N⟩ := fun n1 n2 h => by
    have h : ∃ r, setK ⟨sl, m, N⟩ K o.dst r m ∧ ∀ M0, opZ P tab ⟨sl, M0, N⟩ (fun a M2 => a = r ∧ M2 = M0) o.op := by
      by_cases n3 : c = 3
      · subst n3
        obtain ⟨r, h1, h2⟩ := h
        exact ⟨r, h2, h1⟩
      · rw [stepS_else n1 n2 n3] at h
        exact stepZ_pin h
    obtain ⟨r, h2, h3⟩ := h
    obtain ⟨k1, k2⟩ := setK_dst h2
    exact ⟨r, m, default, ⟨k1, true, hg, (fun _ h => absurd h n1), (fun _ h => absurd h n2), (fun h => absurd h n4), (fun _ h => absurd h n5), (fun _ _ _ _ _ => ⟨rfl, h3⟩), (fun h => by cases h)⟩, k2⟩
  by_cases n1 : c = 1
  · subst n1
    have h : ∃ r M', (∀ β, opX P tab ⟨sl, ovP β pd m, N⟩ (fun a M2 => a = r ∧ M2 = ovP β pd M') o.op) ∧ setK ⟨sl, m, N⟩ K o.dst r M' := by
      cases pd with
      | nil => obtain ⟨r, M', h1, h2⟩ := h; exact ⟨r, M', fun _ => h1, h2⟩
      | cons p pd => exact h
    obtain ⟨r, M', h1, h2⟩ := h
    obtain ⟨k1, k2⟩ := setK_dst h2
    exact ⟨r, M', default, ⟨k1, true, hg, fun _ _ => h1, (fun _ h => by cases h), (fun h => by cases h), (fun _ h => by cases h), (fun _ h => absurd rfl h), (fun h => by cases h)⟩, k2⟩
  · by_cases n2 : c = 2
    · subst n2
      have h : ∃ r, (∀ β, opX P tab ⟨sl, ovP β pd m, N⟩ (fun a M2 => a = r ∧ M2 = ovP β pd m) o.op) ∧ setK ⟨sl, m, N⟩ K o.dst r m := by
        cases pd with
        | nil =>
          obtain ⟨h0, h1⟩ := h
          obtain ⟨r, h2, h3⟩ := read_pin h0 (aopS_op h0.1 h1)
          refine ⟨r, fun _ => opX_of h0.1 h3, ?_⟩
          generalize o.dst = dst at h2
          cases dst <;> exact h2
        | cons p pd => exact h
      obtain ⟨r, h1, h2⟩ := h
      obtain ⟨k1, k2⟩ := setK_dst h2
      exact ⟨r, m, default, ⟨k1, true, hg, (fun _ h => by cases h), (fun _ _ => ⟨rfl, h1⟩), (fun h => by cases h), (fun _ h => by cases h), (fun _ _ h => absurd rfl h), (fun h => by cases h)⟩, k2⟩
    · refine zero n1 n2 ?_
      cases pd with
      | nil => exact h
      | cons p pd => exact (look4_else n1 n2).mp h
theorem drS4_trace {P : Program} {tab : Tab} {ops : Array Oper} {K : ASt → Prop} : ∀ (l : List Oper) (hv xs : List Nat) (s : ASt), drS4 P tab ops l hv xs K s → hv.length = l.length ∧ xs.length = l.length ∧ Trace4 P tab ops s.N l hv xs s.sl s.m K
  | [], [], [], s, h => ⟨rfl, rfl, fun _ => s.sl, fun _ => s.m, fun _ => .x, fun _ => default, rfl, rfl, fun i h => absurd h (by simp), h⟩
  | o :: l, c :: cs, x :: xs, s, h => by
    obtain ⟨h, hg4⟩ := h
    obtain ⟨sl, m, N⟩ := s
    have hyes : stepS4 P tab (pdOf cs xs) c x (drS4 P tab ops l cs xs K) o.dst o.op ⟨sl, m, N⟩ → Gd ops N sl o.guard true → (c :: cs).length = (o :: l).length ∧ (x :: xs).length = (o :: l).length ∧ Trace4 P tab ops N (o :: l) (c :: cs) (x :: xs) sl m K := fun h hg => by
      have : ∃ r M' fb, Step4 P tab ops N (pdOf cs xs) c x o sl m r M' fb ∧ drS4 P tab ops l cs xs K ⟨putO sl o.dst r, M', N⟩ := by
        unfold stepS4 at h
        split at h
        · unfold make4 at h
          split at h
          · rename_i T hop
            obtain ⟨ti, k1, k2, k3, k4⟩ := h
            obtain ⟨k5, k6⟩ := setK_dst k4
            exact ⟨_, _, _, ⟨k5, true, hg, (fun _ h => by cases h), (fun _ h => by cases h), (fun _ => ⟨rfl, rfl, rfl, T, ti, hop, k1, k2, k3, rfl⟩), (fun _ h => by cases h), (fun _ _ _ h => absurd rfl h), (fun h => by cases h)⟩, k6⟩
          · exact h.elim
        · unfold make5 at h
          split at h
          · rename_i T n ps hop
            obtain ⟨rfl, hps, tt, k1, e, k2, ti, k3, k4⟩ := h
            obtain ⟨k5, k6⟩ := setK_dst k4
            have hps : ps = #[] := Array.toList_eq_nil_iff.1 hps
            subst hps
            exact ⟨_, _, default, ⟨k5, true, hg, (fun _ h => by cases h), (fun _ h => by cases h), (fun h => by cases h), (fun _ _ => ⟨rfl, rfl, T, tt, e, ti, hop, k1, k2, k3⟩), (fun _ _ _ _ h => absurd rfl h), (fun h => by cases h)⟩, k6⟩
          · exact h.elim
        · rename_i c n4 n5
          exact step_look n4 n5 h hg
      obtain ⟨r, M', fb, k1, k2⟩ := this
      obtain ⟨q1, q2, q3⟩ := drS4_trace l cs xs _ k2
      refine ⟨by simp [q1], by simp [q2], .cons ?_ k1 q3⟩
      rw [← q1, pdF_of (by omega)]
    have hno : (c ≠ 4 ∧ setK ⟨sl, m, N⟩ (drS4 P tab ops l cs xs K) o.dst (.t []) m) → Gd ops N sl o.guard false → (c :: cs).length = (o :: l).length ∧ (x :: xs).length = (o :: l).length ∧ Trace4 P tab ops N (o :: l) (c :: cs) (x :: xs) sl m K := fun h hg => by
      obtain ⟨k1, k2⟩ := setK_dst h.2
      obtain ⟨q1, q2, q3⟩ := drS4_trace l cs xs _ k2
      refine ⟨by simp [q1], by simp [q2], .cons (r := .t []) (M' := m) (fb := default) (by rw [← q1, pdF_of (by omega)]) ⟨k1, false, hg, (fun h => by cases h), (fun h => by cases h), (fun h4 => absurd h4 h.1), (fun h => by cases h), (fun h => by cases h), fun _ => ⟨rfl, rfl⟩⟩ q3⟩
    cases hgo : o.guard with
    | none =>
      rw [hgo] at h hyes
      exact hyes h rfl
    | some q =>
      obtain ⟨j, w⟩ := q
      rw [hgo] at h hyes hno
      obtain ⟨d, b, h1, h2, h3, h4⟩ := h
      cases b with
      | true =>
        simp only [if_true] at h4
        exact hyes h4 ⟨d, true, h1, h2, h3, rfl⟩
      | false =>
        simp only [Bool.false_eq_true, if_false] at h4
        exact hno h4 ⟨d, false, h1, h2, h3, rfl⟩
  | [], _ :: _, _, _, h => h.elim
  | [], [], _ :: _, _, h => h.elim
  | _ :: _, [], _, _, h => h.elim
  | _ :: _, _ :: _, [], _, h => h.elim
theorem draw_rule4 {P : Program} {tab : Tab} (hT : TabOk P tab) (hm : P.follows .mixedOrders = true) {ops : Array Oper} (rs : List (TypeId × Nat)) (hv xs : List Nat) (anc : List (List Nat)) (hd : drawOk4 ops hv xs anc = true) {id : Nat} {KE : Exit → ASt → Prop} {s : ASt}
    (hi : idOk ops.size hv xs s.m.k rs.length = true) (h : drS4 P tab ops ops.toList hv xs (KE .normal) ⟨s.sl, resv s.m rs, s.N⟩) : ACode P (.region id ops true) KE s :=
  draw_sound4 hm hT hd rs hi (drS4_trace _ _ _ _ h).2.2

section
variable {P : Program} {tab : Tab} {ops : Array Oper} {K : ASt → Prop} {dst : Option Tmp} {sl : Slots} {m : Mem} {N : Nat} {s : ASt} {l : List Oper} {cs xs pd : List Nat} {c x p : Nat} {op : Op} {ty : TypeId} {pos : String} {af : Array Edge} {j : Nat} {w : Bool} {T : TypeId} {ps : Array (Nat × Operand)}
theorem d4_nil : drS4 P tab ops [] [] [] K s = K s := rfl
theorem d4_op : drS4 P tab ops (⟨dst, op, ty, pos, af, none⟩ :: l) (c :: cs) (x :: xs) K s = stepS4 P tab (pdOf cs xs) c x (drS4 P tab ops l cs xs K) dst op s := by
  simp only [drS4, guardK, true_or, and_true]
theorem d4_opg : drS4 P tab ops (⟨dst, op, ty, pos, af, some (j, w)⟩ :: l) (c :: cs) (x :: xs) K s = (gS ((ops[j]?).bind (·.dst)) w (stepS4 P tab (pdOf cs xs) c x (drS4 P tab ops l cs xs K) dst op) (fun s => c ≠ 4 ∧ skS (drS4 P tab ops l cs xs K) dst s) s ∧ (some (j, w) = none ∨ c ≠ 4)) := rfl
theorem d4_p0 : pdOf [] [] = [] := rfl
theorem d4_p : pdOf (c :: cs) (x :: xs) = bif Nat.beq c 4 then x :: pdOf cs xs else pdOf cs xs := rfl
theorem d4_0 : stepS4 P tab [] 0 x K dst op s = stepS P tab 0 K dst op s := rfl
theorem d4_1 : stepS4 P tab [] 1 x K dst op s = stepS P tab 1 K dst op s := rfl
theorem d4_2 : stepS4 P tab [] 2 x K dst op s = stepS P tab 2 K dst op s := rfl
theorem d4_3 : stepS4 P tab [] 3 x K dst op s = stepS P tab 3 K dst op s := rfl
theorem d4_p0' : stepS4 P tab (p :: pd) 0 x K dst op s = stepS P tab 0 K dst op s := rfl
theorem d4_p3 : stepS4 P tab (p :: pd) 3 x K dst op s = stepS P tab 3 K dst op s := rfl
theorem d4_alloc : stepS4 P tab pd 4 x K dst (.alloc T) ⟨sl, m, N⟩ = tiK tab T fun ti => (ti.k.agg = true ∨ 0 < ti.sz) ∧ Cells (zeroAV ti) ∧ setT sl N K dst (.p x 0 0 1) (m.put x ⟨T, (zeroAV ti).cells.length, [zeroAV ti]⟩) := by
  simp only [← setT_eq (m := m)]; rfl
theorem d4_lit : stepS4 P tab pd 5 x K dst (.buildSlice T j ps) ⟨sl, m, N⟩ = (j = 0 ∧ ps.toList = [] ∧ tiK tab T fun tt => slK tt.k fun e => tiK tab e fun _ => setT sl N K dst (.s x 0 0) m) := by
  simp only [← setT_eq (m := m)]; rfl
def pinF (r : AV) (F : Mem) (a : AV) (M : Mem) : Prop := a = r ∧ M = F
/-- The blocks set aside, as they are now. -/
def pdB (m : Mem) (i : Nat) : Blk := (m.get i).getD default
theorem d4_heavyX {r : AV} {F : (Nat → Blk) → Mem} (h1 : ∀ β, opX P tab ⟨sl, ovP β (p :: pd) m, N⟩ (pinF r (F β)) op) (h3 : ∀ β, F β = ovP β (p :: pd) (F (pdB m))) (h2 : setT sl N K dst r (F (pdB m))) : stepS4 P tab (p :: pd) 1 x K dst op ⟨sl, m, N⟩ :=
  ⟨r, F (pdB m), fun β => by have := h1 β; unfold pinF at this; rw [h3 β] at this; exact this, by rw [setT_eq]; exact h2⟩
theorem d4_readX {r : AV} (h1 : ∀ β, opX P tab ⟨sl, ovP β (p :: pd) m, N⟩ (pinF r (ovP β (p :: pd) m)) op) (h2 : setT sl N K dst r m) : stepS4 P tab (p :: pd) 2 x K dst op ⟨sl, m, N⟩ :=
  ⟨r, h1, by rw [setT_eq]; exact h2⟩
theorem d4_heavyC {f : FuncId} {as : Array Operand} {ts : Array TypeId} {r : AV} {F : (Nat → Blk) → Mem} (h1 : ∀ β, ICall P f (as.toList.map (ev sl)) (ovP β (p :: pd) m) (fun a M2 => a = r ∧ M2 = F β)) (h3 : ∀ β, F β = ovP β (p :: pd) (F (pdB m)))
    (h2 : setT sl N K dst r (F (pdB m))) : stepS4 P tab (p :: pd) 1 x K dst (.call ⟨.value (.func f), as, ts⟩) ⟨sl, m, N⟩ :=
  d4_heavyX (fun β => by show ICall P f (as.toList.map (fun o => ev sl o) ++ []) _ _; rw [List.append_nil]; exact h1 β) h3 h2
end
theorem drS4_congr {P : Program} {tab : Tab} {ops : Array Oper} {K : ASt → Prop} {l : List Oper} {cs xs : List Nat} {s s' : ASt} (h : s = s') : drS4 P tab ops l cs xs K s = drS4 P tab ops l cs xs K s' := by rw [h]
attribute [congr] drS4_congr
end Go.Ab
