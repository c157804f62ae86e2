/- Drawn regions in which variables come to be: their walk. Giving up blocks of one's own behind a step. Openers: bytes; more arguments. Scopes in which code jumps. The later rules, as one. Ways that part, told at once; loops whose other slots stay as they are; rows of anything. -/
import Derived.Test.YtcikejikpnjilaaAbG6
set_option linter.unusedVariables false
set_option linter.constructorNameAsVariable false
set_option linter.unusedSimpArgs false
namespace Go.Ab
open Go Go.RowKit

/-- The names still set aside. -/
def pdOf : List Nat → List Nat → List Nat
  | c :: cs, x :: xs => bif Nat.beq c 4 then x :: pdOf cs xs else pdOf cs xs
  | _, _ => []
theorem pdF_cons {c x : Nat} {hv xs : List Nat} : ∀ (n i : Nat), pdF (c :: hv) (x :: xs) (i + 1) n = pdF hv xs i n
  | 0, _ => rfl
  | n + 1, i => by rw [pdF, pdF, pdF_cons n (i + 1)]; rfl
theorem pdF_of : ∀ {hv xs : List Nat}, hv.length = xs.length → pdF hv xs 0 hv.length = pdOf hv xs
  | [], [], _ => rfl
  | c :: hv, x :: xs, h => by
    rw [List.length_cons, pdF, pdOf, pdF_cons, pdF_of (by simpa using h)]; rfl
  | [], _ :: _, h => by cases h
  | _ :: _, [], h => by cases h
def make4 (P : Program) (tab : Tab) (x : Nat) (K : ASt → Prop) (dst : Option Tmp) (s : ASt) : Op → Prop
  | .alloc T => tiK tab T fun ti => (ti.k.agg = true ∨ 0 < ti.sz) ∧ Cells (zeroAV ti) ∧ setK s K dst (.p x 0 0 1) (s.m.put x ⟨T, (zeroAV ti).cells.length, [zeroAV ti]⟩)
  | _ => False
def make5 (P : Program) (tab : Tab) (x : Nat) (K : ASt → Prop) (dst : Option Tmp) (s : ASt) : Op → Prop
  | .buildSlice T n ps => n = 0 ∧ ps.toList = [] ∧ tiK tab T fun tt => slK tt.k fun e => tiK tab e fun _ => setK s K dst (.s x 0 0) s.m
  | _ => False
def look4 (P : Program) (tab : Tab) (pd : List Nat) : Nat → (ASt → Prop) → Option Tmp → Op → ASt → Prop
  | 1, K, dst, op, s => ∃ r M', (∀ β, opX P tab ⟨s.sl, ovP β pd s.m, s.N⟩ (fun a M2 => a = r ∧ M2 = ovP β pd M') op) ∧ setK s K dst r M'
  | 2, K, dst, op, s => ∃ r, (∀ β, opX P tab ⟨s.sl, ovP β pd s.m, s.N⟩ (fun a M2 => a = r ∧ M2 = ovP β pd s.m) op) ∧ setK s K dst r s.m
  | c, K, dst, op, s => stepS P tab c K dst op s
def stepS4 (P : Program) (tab : Tab) (pd : List Nat) (c x : Nat) (K : ASt → Prop) (dst : Option Tmp) (op : Op) (s : ASt) : Prop :=
  match c with
  | 4 => make4 P tab x K dst s op
  | 5 => make5 P tab x K dst s op
  | c => match pd with
    | [] => stepS P tab c K dst op s
    | p :: pd => look4 P tab (p :: pd) c K dst op s
def drS4 (P : Program) (tab : Tab) (ops : Array Oper) : List Oper → List Nat → List Nat → (ASt → Prop) → ASt → Prop
  | [], [], [], K, s => K s
  | o :: l, c :: cs, x :: xs, K, s => guardK ops s o.guard (stepS4 P tab (pdOf cs xs) c x (drS4 P tab ops l cs xs K) o.dst o.op s) (c ≠ 4 ∧ setK s (drS4 P tab ops l cs xs K) o.dst (.t []) s.m) ∧ (o.guard = none ∨ c ≠ 4)
  | _, _, _, _, _ => False
theorem Trace4.cons {P : Program} {tab : Tab} {ops : Array Oper} {N : Nat} {o : Oper} {l : List Oper} {c x : Nat} {hv xs : List Nat} {sl : Slots} {M M' : Mem} {r : AV} {fb : Blk} {K : ASt → Prop} {pd : List Nat}
    (hp : pd = pdF hv xs 0 l.length) (h1 : Step4 P tab ops N pd c x o sl M r M' fb) (h2 : Trace4 P tab ops N l hv xs (putO sl o.dst r) M' K) : Trace4 P tab ops N (o :: l) (c :: hv) (x :: xs) sl M K := by
  obtain ⟨slA, mA, rA, fA, e1, e2, e3, e4⟩ := h2
  refine ⟨fun i => i.casesOn sl slA, fun i => i.casesOn M mA, fun i => i.casesOn r rA, fun i => i.casesOn fb fA, rfl, rfl, fun i hi => ?_, e4⟩
  cases i with
  | zero =>
    simp only [List.getD_cons_zero, List.getElem_cons_zero]
    refine ⟨?_, e1⟩
    rw [List.length_cons, show l.length + 1 - (0 + 1) = l.length by omega, pdF_cons, ← hp]
    show Step4 P tab ops N pd c x o sl M r (mA 0) fb
    rw [e2]; exact h1
  | succ i =>
    have := e3 i (by simpa using hi)
    rw [pdF_cons, List.length_cons, show l.length + 1 - (i + 1 + 1) = l.length - (i + 1) by omega]
    exact this
theorem look4_else {P : Program} {tab : Tab} {pd : List Nat} {c : Nat} {K : ASt → Prop} {dst : Option Tmp} {op : Op} {s : ASt} (h1 : c ≠ 1) (h2 : c ≠ 2) : look4 P tab pd c K dst op s ↔ stepS P tab c K dst op s := by
  unfold look4
  split
  · exact absurd rfl h1
  · exact absurd rfl h2
  · exact .rfl
theorem step_look {P : Program} {tab : Tab} {ops : Array Oper} {N : Nat} {o : Oper} {pd : List Nat} {c x : Nat} {sl : Slots} {m : Mem} {K : ASt → Prop} (n4 : c ≠ 4) (n5 : c ≠ 5) (h : match pd with
    | [] => stepS P tab c K o.dst o.op ⟨sl, m, N⟩
    | p :: pd => look4 P tab (p :: pd) c K o.dst o.op ⟨sl, m, N⟩) (hg : Gd ops N sl o.guard true) :
    ∃ r M' fb, Step4 P tab ops N pd c x o sl m r M' fb ∧ K ⟨putO sl o.dst r, M', N⟩ := by
  have zero : c ≠ 1 → c ≠ 2 → stepS P tab c K o.dst o.op ⟨sl, m, N⟩ → ∃ r M' fb, Step4 P tab ops N pd c x o sl m r M' fb ∧ K ⟨putO sl o.dst r, M', N⟩ := fun n1 n2 h => by
    have h : ∃ r, setK ⟨sl, m, N⟩ K o.dst r m ∧ ∀ M0, opZ P tab ⟨sl, M0, N⟩ (fun a M2 => a = r ∧ M2 = M0) o.op := by
      by_cases n3 : c = 3
      · subst n3
        obtain ⟨r, h1, h2⟩ := h
        exact ⟨r, h2, h1⟩
      · rw [stepS_else n1 n2 n3] at h
        exact stepZ_pin h
    obtain ⟨r, h2, h3⟩ := h
    obtain ⟨k1, k2⟩ := setK_dst h2
    exact ⟨r, m, default, ⟨k1, true, hg, (fun _ h => absurd h n1), (fun _ h => absurd h n2), (fun h => absurd h n4), (fun _ h => absurd h n5), (fun _ _ _ _ _ => ⟨rfl, h3⟩), (fun h => by cases h)⟩, k2⟩
  by_cases n1 : c = 1
  · subst n1
    have h : ∃ r M', (∀ β, opX P tab ⟨sl, ovP β pd m, N⟩ (fun a M2 => a = r ∧ M2 = ovP β pd M') o.op) ∧ setK ⟨sl, m, N⟩ K o.dst r M' := by
      cases pd with
      | nil => obtain ⟨r, M', h1, h2⟩ := h; exact ⟨r, M', fun _ => h1, h2⟩
      | cons p pd => exact h
    obtain ⟨r, M', h1, h2⟩ := h
    obtain ⟨k1, k2⟩ := setK_dst h2
    exact ⟨r, M', default, ⟨k1, true, hg, fun _ _ => h1, (fun _ h => by cases h), (fun h => by cases h), (fun _ h => by cases h), (fun _ h => absurd rfl h), (fun h => by cases h)⟩, k2⟩
  · by_cases n2 : c = 2
    · subst n2
      have h : ∃ r, (∀ β, opX P tab ⟨sl, ovP β pd m, N⟩ (fun a M2 => a = r ∧ M2 = ovP β pd m) o.op) ∧ setK ⟨sl, m, N⟩ K o.dst r m := by
        cases pd with
        | nil =>
          obtain ⟨h0, h1⟩ := h
          obtain ⟨r, h2, h3⟩ := read_pin h0 (aopS_op h0.1 h1)
          refine ⟨r, fun _ => opX_of h0.1 h3, ?_⟩
          generalize o.dst = dst at h2
          cases dst <;> exact h2
        | cons p pd => exact h
      obtain ⟨r, h1, h2⟩ := h
      obtain ⟨k1, k2⟩ := setK_dst h2
      exact ⟨r, m, default, ⟨k1, true, hg, (fun _ h => by cases h), (fun _ _ => ⟨rfl, h1⟩), (fun h => by cases h), (fun _ h => by cases h), (fun _ _ h => absurd rfl h), (fun h => by cases h)⟩, k2⟩
    · refine zero n1 n2 ?_
      cases pd with
      | nil => exact h
      | cons p pd => exact (look4_else n1 n2).mp h
theorem drS4_trace {P : Program} {tab : Tab} {ops : Array Oper} {K : ASt → Prop} : ∀ (l : List Oper) (hv xs : List Nat) (s : ASt), drS4 P tab ops l hv xs K s → hv.length = l.length ∧ xs.length = l.length ∧ Trace4 P tab ops s.N l hv xs s.sl s.m K
  | [], [], [], s, h => ⟨rfl, rfl, fun _ => s.sl, fun _ => s.m, fun _ => .x, fun _ => default, rfl, rfl, fun i h => absurd h (by simp), h⟩
  | o :: l, c :: cs, x :: xs, s, h => by
    obtain ⟨h, hg4⟩ := h
    obtain ⟨sl, m, N⟩ := s
    have hyes : stepS4 P tab (pdOf cs xs) c x (drS4 P tab ops l cs xs K) o.dst o.op ⟨sl, m, N⟩ → Gd ops N sl o.guard true → (c :: cs).length = (o :: l).length ∧ (x :: xs).length = (o :: l).length ∧ Trace4 P tab ops N (o :: l) (c :: cs) (x :: xs) sl m K := fun h hg => by
      have : ∃ r M' fb, Step4 P tab ops N (pdOf cs xs) c x o sl m r M' fb ∧ drS4 P tab ops l cs xs K ⟨putO sl o.dst r, M', N⟩ := by
        unfold stepS4 at h
        split at h
        · unfold make4 at h
          split at h
          · rename_i T hop
            obtain ⟨ti, k1, k2, k3, k4⟩ := h
            obtain ⟨k5, k6⟩ := setK_dst k4
            exact ⟨_, _, _, ⟨k5, true, hg, (fun _ h => by cases h), (fun _ h => by cases h), (fun _ => ⟨rfl, rfl, rfl, T, ti, hop, k1, k2, k3, rfl⟩), (fun _ h => by cases h), (fun _ _ _ h => absurd rfl h), (fun h => by cases h)⟩, k6⟩
          · exact h.elim
        · unfold make5 at h
          split at h
          · rename_i T n ps hop
            obtain ⟨rfl, hps, tt, k1, e, k2, ti, k3, k4⟩ := h
            obtain ⟨k5, k6⟩ := setK_dst k4
            have hps : ps = #[] := Array.toList_eq_nil_iff.1 hps
            subst hps
            exact ⟨_, _, default, ⟨k5, true, hg, (fun _ h => by cases h), (fun _ h => by cases h), (fun h => by cases h), (fun _ _ => ⟨rfl, rfl, T, tt, e, ti, hop, k1, k2, k3⟩), (fun _ _ _ _ h => absurd rfl h), (fun h => by cases h)⟩, k6⟩
          · exact h.elim
        · rename_i c n4 n5
          exact step_look n4 n5 h hg
      obtain ⟨r, M', fb, k1, k2⟩ := this
      obtain ⟨q1, q2, q3⟩ := drS4_trace l cs xs _ k2
      refine ⟨by simp [q1], by simp [q2], .cons ?_ k1 q3⟩
      rw [← q1, pdF_of (by omega)]
    have hno : (c ≠ 4 ∧ setK ⟨sl, m, N⟩ (drS4 P tab ops l cs xs K) o.dst (.t []) m) → Gd ops N sl o.guard false → (c :: cs).length = (o :: l).length ∧ (x :: xs).length = (o :: l).length ∧ Trace4 P tab ops N (o :: l) (c :: cs) (x :: xs) sl m K := fun h hg => by
      obtain ⟨k1, k2⟩ := setK_dst h.2
      obtain ⟨q1, q2, q3⟩ := drS4_trace l cs xs _ k2
      refine ⟨by simp [q1], by simp [q2], .cons (r := .t []) (M' := m) (fb := default) (by rw [← q1, pdF_of (by omega)]) ⟨k1, false, hg, (fun h => by cases h), (fun h => by cases h), (fun h4 => absurd h4 h.1), (fun h => by cases h), (fun h => by cases h), fun _ => ⟨rfl, rfl⟩⟩ q3⟩
    cases hgo : o.guard with
    | none =>
      rw [hgo] at h hyes
      exact hyes h rfl
    | some q =>
      obtain ⟨j, w⟩ := q
      rw [hgo] at h hyes hno
      obtain ⟨d, b, h1, h2, h3, h4⟩ := h
      cases b with
      | true =>
        simp only [if_true] at h4
        exact hyes h4 ⟨d, true, h1, h2, h3, rfl⟩
      | false =>
        simp only [Bool.false_eq_true, if_false] at h4
        exact hno h4 ⟨d, false, h1, h2, h3, rfl⟩
  | [], _ :: _, _, _, h => h.elim
  | [], [], _ :: _, _, h => h.elim
  | _ :: _, [], _, _, h => h.elim
  | _ :: _, _ :: _, [], _, h => h.elim
theorem draw_rule4 {P : Program} {tab : Tab} (hT : TabOk P tab) (hm : P.follows .mixedOrders = true) {ops : Array Oper} (rs : List (TypeId × Nat)) (hv xs : List Nat) (anc : List (List Nat)) (hd : drawOk4 ops hv xs anc = true) {id : Nat} {KE : Exit → ASt → Prop} {s : ASt}
    (hi : idOk ops.size hv xs s.m.k rs.length = true) (h : drS4 P tab ops ops.toList hv xs (KE .normal) ⟨s.sl, resv s.m rs, s.N⟩) : ACode P (.region id ops true) KE s :=
  draw_sound4 hm hT hd rs hi (drS4_trace _ _ _ _ h).2.2

section
variable {P : Program} {tab : Tab} {ops : Array Oper} {K : ASt → Prop} {dst : Option Tmp} {sl : Slots} {m : Mem} {N : Nat} {s : ASt} {l : List Oper} {cs xs pd : List Nat} {c x p : Nat} {op : Op} {ty : TypeId} {pos : String} {af : Array Edge} {j : Nat} {w : Bool} {T : TypeId} {ps : Array (Nat × Operand)}
theorem d4_nil : drS4 P tab ops [] [] [] K s = K s := rfl
theorem d4_op : drS4 P tab ops (⟨dst, op, ty, pos, af, none⟩ :: l) (c :: cs) (x :: xs) K s = stepS4 P tab (pdOf cs xs) c x (drS4 P tab ops l cs xs K) dst op s := by
  simp only [drS4, guardK, true_or, and_true]
theorem d4_opg : drS4 P tab ops (⟨dst, op, ty, pos, af, some (j, w)⟩ :: l) (c :: cs) (x :: xs) K s = (gS ((ops[j]?).bind (·.dst)) w (stepS4 P tab (pdOf cs xs) c x (drS4 P tab ops l cs xs K) dst op) (fun s => c ≠ 4 ∧ skS (drS4 P tab ops l cs xs K) dst s) s ∧ (some (j, w) = none ∨ c ≠ 4)) := rfl
theorem d4_p0 : pdOf [] [] = [] := rfl
theorem d4_p : pdOf (c :: cs) (x :: xs) = bif Nat.beq c 4 then x :: pdOf cs xs else pdOf cs xs := rfl
theorem d4_0 : stepS4 P tab [] 0 x K dst op s = stepS P tab 0 K dst op s := rfl
theorem d4_1 : stepS4 P tab [] 1 x K dst op s = stepS P tab 1 K dst op s := rfl
theorem d4_2 : stepS4 P tab [] 2 x K dst op s = stepS P tab 2 K dst op s := rfl
theorem d4_3 : stepS4 P tab [] 3 x K dst op s = stepS P tab 3 K dst op s := rfl
theorem d4_p0' : stepS4 P tab (p :: pd) 0 x K dst op s = stepS P tab 0 K dst op s := rfl
theorem d4_p3 : stepS4 P tab (p :: pd) 3 x K dst op s = stepS P tab 3 K dst op s := rfl
theorem d4_alloc : stepS4 P tab pd 4 x K dst (.alloc T) ⟨sl, m, N⟩ = tiK tab T fun ti => (ti.k.agg = true ∨ 0 < ti.sz) ∧ Cells (zeroAV ti) ∧ setT sl N K dst (.p x 0 0 1) (m.put x ⟨T, (zeroAV ti).cells.length, [zeroAV ti]⟩) := by
  simp only [← setT_eq (m := m)]; rfl
theorem d4_lit : stepS4 P tab pd 5 x K dst (.buildSlice T j ps) ⟨sl, m, N⟩ = (j = 0 ∧ ps.toList = [] ∧ tiK tab T fun tt => slK tt.k fun e => tiK tab e fun _ => setT sl N K dst (.s x 0 0) m) := by
  simp only [← setT_eq (m := m)]; rfl
def pinF (r : AV) (F : Mem) (a : AV) (M : Mem) : Prop := a = r ∧ M = F
/-- The blocks set aside, as they are now. -/
def pdB (m : Mem) (i : Nat) : Blk := (m.get i).getD default
theorem d4_heavyX {r : AV} {F : (Nat → Blk) → Mem} (h1 : ∀ β, opX P tab ⟨sl, ovP β (p :: pd) m, N⟩ (pinF r (F β)) op) (h3 : ∀ β, F β = ovP β (p :: pd) (F (pdB m))) (h2 : setT sl N K dst r (F (pdB m))) : stepS4 P tab (p :: pd) 1 x K dst op ⟨sl, m, N⟩ :=
  ⟨r, F (pdB m), fun β => by have := h1 β; unfold pinF at this; rw [h3 β] at this; exact this, by rw [setT_eq]; exact h2⟩
theorem d4_heavyC {f : FuncId} {as : Array Operand} {ts : Array TypeId} {r : AV} {F : (Nat → Blk) → Mem} (h1 : ∀ β, ICall P f (as.toList.map (ev sl)) (ovP β (p :: pd) m) (fun a M2 => a = r ∧ M2 = F β)) (h3 : ∀ β, F β = ovP β (p :: pd) (F (pdB m)))
    (h2 : setT sl N K dst r (F (pdB m))) : stepS4 P tab (p :: pd) 1 x K dst (.call ⟨.value (.func f), as, ts⟩) ⟨sl, m, N⟩ :=
  d4_heavyX (fun β => by show ICall P f (as.toList.map (fun o => ev sl o) ++ []) _ _; rw [List.append_nil]; exact h1 β) h3 h2
end
end Go.Ab

set_option linter.unusedVariables false
set_option linter.constructorNameAsVariable false
set_option linter.unusedSimpArgs false
namespace Go.Ab
open Go Go.RowKit

inductive FzK (K : Exit → ASt → Prop) (e : Exit) : ASt → Prop
  | done {s : ASt} (h : K e s) : FzK K e s
  | step {s : ASt} (id : Nat) (keep : List Nat) (hb : BOk s.m id (remove s.m.l id)) (hs : SOk s id keep) (h : FzK K e (frz s id keep)) : FzK K e s
theorem FzK.out {K : Exit → ASt → Prop} {e : Exit} {w0 : World} {D : List Deferred} {a : Act} {E0 : Env} {s : ASt} (h : FzK K e s) : ∀ E : Env, St w0 E D s a → Later E0 E → ∃ E' s', E'.w = E.w ∧ St w0 E' D s' a ∧ Later E0 E' ∧ K e s' := by
  induction h with
  | done h => exact fun E hst hl => ⟨E, _, rfl, hst, hl, h⟩
  | step id keep hb hs h ih =>
    intro E hst hl
    obtain ⟨E', s', h1, h2, h3, h4⟩ := ih (E.without [id]) (hst.freeze hb hs) (hl.trans (hst.g.without [id]).2)
    exact ⟨E', s', h1, h2, h3, h4⟩
end Go.Ab

set_option linter.unusedVariables false
set_option linter.constructorNameAsVariable false
set_option linter.unusedSimpArgs false
namespace Go.Ab
open Go Go.RowKit Go.ChangeShapes Go.WideShapes Go.ChangeAt

section
variable {P : Program}
theorem Opener.map {t : TypeId} {α β : Type} {enc : α → AV} {Q : α → Prop} {enc' : β → AV} {R : β → Prop} (h : Opener P t enc Q) (g : α → β) (hg : ∀ a, Q a → enc a = enc' (g a) ∧ R (g a)) : Opener P t enc' R := fun H encH W fuel cs x hd hz => by
  obtain ⟨a, ha, ho⟩ := h H encH W fuel cs x hd hz
  obtain ⟨h1, h2⟩ := hg a ha
  exact ⟨g a, h2, h1 ▸ ho⟩
theorem Opener.bytes {t e : TypeId} {ti : TI} (h : P.underlying t = some (.slice e)) (he : P.underlying e = some (.int .u8)) (ht : TOk P e ti) (hs : ti.sz = 1) : Opener P t (fun l : List UInt8 => .l 1 (l.map encB)) (fun _ => True) :=
  (Opener.slice h (.int he) ht (by omega)).map (fun l => l.map fun n => UInt8.ofNat n.toNat) fun l hl => by
    refine ⟨?_, trivial⟩
    rw [hs, List.map_map]
    congr 1
    refine List.map_congr_left fun n hn => ?_
    obtain ⟨a, rfl, b⟩ := wf_u8 (hl n hn)
    simp only [Function.comp, encB, Int.toNat_natCast]
    congr 2
    rw [UInt8.toNat_ofNat_of_lt' (by omega)]
end
theorem wf_i64 {n : Int} (h : (Lit.int .i64 n).wf = true) : -9223372036854775808 ≤ n ∧ n < 9223372036854775808 := by
  simp only [Lit.wf, Bool.and_eq_true, decide_eq_true_eq, IntKind.min, IntKind.max, IntKind.signed, IntKind.bits] at h
  simp at h
  omega
theorem rep4 {E : Env} {a b c d : AV} {v u w z : Value} (h : Rep E a v) (h' : Rep E b u) (h'' : Rep E c w) (h3 : Rep E d z) : ∀ i (h1 : i < [a, b, c, d].length) (h2 : i < #[v, u, w, z].size), Rep E [a, b, c, d][i] #[v, u, w, z][i]
  | 0, _, _ => h
  | 1, _, _ => h'
  | 2, _, _ => h''
  | 3, _, _ => h3
end Go.Ab

set_option linter.unusedVariables false
set_option linter.constructorNameAsVariable false
set_option linter.unusedSimpArgs false
namespace Go.Ab
open Go Go.RowKit

/-- What is to be shown of a scope's body, by a measure: who jumps to a label of the scope comes to what is kept there. -/
def QG (c : Code) (I : Nat → Nat → Act → World → Prop) (Q : Exit → Act → World → Prop) (m : Nat) : Exit → Act → World → Prop
  | .goto l, a, w => match findLabel c l with
    | some _ => ∃ m', m' < m ∧ I l m' a w
    | none => Q (.goto l) a w
  | e, a, w => Q e a w
theorem wpIn_scope_jumps {F : Fence} {n : Nat} {P : Program} {Q : Exit → Act → World → Prop} {a : Act} {w : World} {c : Code} (I : Nat → Nat → Act → World → Prop) (m : Nat) (h : c.wpIn F n P (QG c I Q m) a w)
    (hr : ∀ l rest m a w, findLabel c l = some rest → I l m a w → rest.wpIn F n P (QG c I Q m) a w) : (Code.scope c).wpIn F n P Q a w := by
  have key : ∀ m (d : Code) (a : Act) (w : World), d.wpIn F n P (QG c I Q m) a w → ∀ (b : Frame) (k : List Item) (cs : List Frame), b.roundOf = F.round → F.fn b.fn → F.room (cs.length + 1 + n) →
      ∃ e a' w', Q e a' w' ∧ ArrivesIn (Machine.fenced P F) P (lone (b.atR a (.code d :: .inScope c :: k)) cs w) b k cs e a' w' := by
    intro m
    induction m using Nat.strongRecOn with
    | _ m ih =>
      intro d a w h b k cs hro hb hrm
      obtain ⟨e, a₁, w₁, hq, harr⟩ := h b (.inScope c :: k) cs hro hb hrm
      cases e with
      | normal => exact ⟨.normal, a₁, w₁, hq, StepsIn.trans harr (.one (fenced_calm hb hrm rfl) stepR_inScope')⟩
      | exit id =>
        have hx : exitTo id (.inScope c :: k) = exitTo id k := by simp [exitTo]
        exact ⟨.exit id, a₁, w₁, hq, fun k' hk => harr.1 k' (by rw [hx]; exact hk), fun hr' hk => harr.2 hr' (by rw [hx]; exact hk)⟩
      | goto l =>
        cases hl : findLabel c l with
        | none =>
          have hx : gotoIn l (.inScope c :: k) = gotoIn l k := by simp [gotoIn, hl]
          simp only [QG, hl] at hq
          exact ⟨.goto l, a₁, w₁, hq, fun k' hk => harr.1 k' (by rw [hx]; exact hk), fun hr' hk => harr.2 hr' (by rw [hx]; exact hk)⟩
        | some rest =>
          have hx : gotoIn l (.inScope c :: k) = some (.code rest :: .inScope c :: k) := by simp [gotoIn, hl]
          simp only [QG, hl] at hq
          obtain ⟨m', h1, h2⟩ := hq
          obtain ⟨e, a₂, w₂, hq₂, harr₂⟩ := ih m' h1 rest a₁ w₁ (hr l rest m' a₁ w₁ hl h2) b k cs hro hb hrm
          exact ⟨e, a₂, w₂, hq₂, .of_steps (harr.1 _ hx) harr₂⟩
      | ret => exact ⟨_, a₁, w₁, hq, harr⟩
      | panic ch => exact ⟨_, a₁, w₁, hq, harr⟩
      | outgrown => exact ⟨_, a₁, w₁, hq, harr⟩
  intro b k cs hro hb hrm
  have h0 : (lone (b.atR a (.code (.scope c) :: k)) cs w).fenced P F := fenced_calm hb hrm rfl
  obtain ⟨e, a₁, w₁, hq, harr⟩ := key m c a w h b k cs hro hb hrm
  exact ⟨e, a₁, w₁, hq, .of_steps (.one h0 stepR_scope') harr⟩

/-- Jumps to one label, ahead. -/
def fwdK (P : Program) (tab : Tab) (l : Nat) (rest : Code) (K : Exit → ASt → Prop) : Exit → ASt → Prop
  | .goto j, s => Nat.beq j l = true ∧ aw P tab rest (noGotoK K) s
  | e, s => K e s
theorem scope_fwd {P : Program} {tab : Tab} (hT : TabOk P tab) {c : Code} {K : Exit → ASt → Prop} {s : ASt} (l : Nat) (rest : Code) (hl : findLabel c l = some rest) (h : aw P tab c (fwdK P tab l rest K) s) : ACode P (.scope c) K s := fun ro w0 E D a hs => by
  refine wpIn_scope_jumps (fun j m a w => j = l ∧ rest.wpIn (FF ro) 0 P (fun e a w => (∀ j, e ≠ .goto j) ∧ ∃ E' s', E'.w = w ∧ St w0 E' D s' a ∧ Later E E' ∧ K e s') a w) 1
    (Code.wpIn_mono ?_ (aw_sound hT c _ s h ro w0 E D a hs)) ?_
  · rintro e a' w' ⟨E', s', h1, h2, h3, h4⟩
    cases e with
    | goto j =>
      have hj := Nat.eq_of_beq_eq_true h4.1
      subst hj
      simp only [QG, hl]
      refine ⟨0, by omega, trivial, Code.wpIn_mono ?_ (h1 ▸ aw_sound hT rest _ s' h4.2 ro w0 E' D a' h2)⟩
      rintro e a2 w2 ⟨E2, s2, k1, k2, k3, k4⟩
      cases e <;> first | exact ⟨(fun j => by simp), E2, s2, k1, k2, h3.trans k3, k4⟩ | exact k4.elim
    | _ => exact ⟨E', s', h1, h2, h3, h4⟩
  · rintro l' rest' m a w hl' ⟨hll, hw⟩
    subst hll
    rw [hl] at hl'
    cases hl'
    refine Code.wpIn_mono ?_ hw
    rintro e a' w' ⟨h1, h2⟩
    cases e with
    | goto j => exact absurd rfl (h1 j)
    | _ => exact h2
/-- Jumps back to one label: what is kept there. -/
def backK {α : Type} (l : Nat) (I : α → ASt) (G : α → Prop) (K : Exit → ASt → Prop) : Exit → ASt → Prop
  | .goto j, s => Nat.beq j l = true ∧ ∃ y, G y ∧ Fits s (I y)
  | e, s => K e s
section
variable {P : Program} {tab : Tab} {K : Exit → ASt → Prop} {s : ASt} {l j : Nat} {rest : Code} {α : Type} {I : α → ASt} {G : α → Prop} {f : ASt → Prop}
theorem r_goto : aw P tab (.goto l) K s = K (.goto l) s := rfl
theorem r_thenG : thenK f K (.goto l) s = K (.goto l) s := rfl
theorem r_fwdN : fwdK P tab l rest K .normal s = K .normal s := rfl
theorem r_fwdR : fwdK P tab l rest K .ret s = K .ret s := rfl
theorem r_fwdE : fwdK P tab l rest K (.exit j) s = K (.exit j) s := rfl
theorem r_fwdG : fwdK P tab l rest K (.goto j) s = (Nat.beq j l = true ∧ aw P tab rest (noGotoK K) s) := rfl
theorem r_backN : backK l I G K .normal s = K .normal s := rfl
theorem r_backR : backK l I G K .ret s = K .ret s := rfl
theorem r_backE : backK l I G K (.exit j) s = K (.exit j) s := rfl
theorem r_backG : backK l I G K (.goto j) s = (Nat.beq j l = true ∧ ∃ y, G y ∧ Fits s (I y)) := rfl
theorem r_blockG : blockK j K (.goto l) s = K (.goto l) s := rfl
end
end Go.Ab

set_option maxRecDepth 100000
namespace Go.Ab
open Go Go.RowKit

theorem wk4 :
  ((((type_of% @Go.Ab.d4_nil) ∧ ((type_of% @Go.Ab.d4_op) ∧ (type_of% @Go.Ab.d4_opg))) ∧ (((type_of% @Go.Ab.d4_p0) ∧ (type_of% @Go.Ab.d4_p)) ∧ ((type_of% @Go.Ab.d4_0) ∧ (type_of% @Go.Ab.d4_1)))) ∧ ((((type_of% @Go.Ab.d4_2) ∧
 (type_of% @Go.Ab.d4_3)) ∧ ((type_of% @Go.Ab.d4_p0') ∧ (type_of% @Go.Ab.d4_p3))) ∧ (((type_of% @Go.Ab.d4_alloc) ∧ (type_of% @Go.Ab.d4_lit)) ∧ ((type_of% @Go.Ab.resv.eq_1) ∧ (type_of% @Go.Ab.resv.eq_2))))) ∧ (((((type_of%
 @Go.Ab.pdB.eq_1) ∧ (type_of% @Go.Ab.ovP.eq_1)) ∧ ((type_of% @Go.Ab.ovP.eq_2) ∧ (type_of% @Go.Ab.r_goto))) ∧ (((type_of% @Go.Ab.r_thenG) ∧ (type_of% @Go.Ab.r_fwdN)) ∧ ((type_of% @Go.Ab.r_fwdR) ∧ (type_of%
 @Go.Ab.r_fwdE)))) ∧ ((((type_of% @Go.Ab.r_fwdG) ∧ (type_of% @Go.Ab.r_backN)) ∧ ((type_of% @Go.Ab.r_backR) ∧ (type_of% @Go.Ab.r_backE))) ∧ (((type_of% @Go.Ab.r_backG) ∧ (type_of% @Go.Ab.r_blockG)) ∧ ((type_of%
 @List.flatMap_cons.{0, 0}) ∧ (type_of% @List.flatMap_nil.{0, 0}))))) :=
⟨⟨⟨⟨@Go.Ab.d4_nil, ⟨@Go.Ab.d4_op, @Go.Ab.d4_opg⟩⟩, ⟨⟨@Go.Ab.d4_p0, @Go.Ab.d4_p⟩, ⟨@Go.Ab.d4_0, @Go.Ab.d4_1⟩⟩⟩, ⟨⟨⟨@Go.Ab.d4_2, @Go.Ab.d4_3⟩, ⟨@Go.Ab.d4_p0', @Go.Ab.d4_p3⟩⟩, ⟨⟨@Go.Ab.d4_alloc, @Go.Ab.d4_lit⟩,
 ⟨@Go.Ab.resv.eq_1, @Go.Ab.resv.eq_2⟩⟩⟩⟩, ⟨⟨⟨⟨@Go.Ab.pdB.eq_1, @Go.Ab.ovP.eq_1⟩, ⟨@Go.Ab.ovP.eq_2, @Go.Ab.r_goto⟩⟩, ⟨⟨@Go.Ab.r_thenG, @Go.Ab.r_fwdN⟩, ⟨@Go.Ab.r_fwdR, @Go.Ab.r_fwdE⟩⟩⟩, ⟨⟨⟨@Go.Ab.r_fwdG, @Go.Ab.r_backN⟩,
 ⟨@Go.Ab.r_backR, @Go.Ab.r_backE⟩⟩, ⟨⟨@Go.Ab.r_backG, @Go.Ab.r_blockG⟩, ⟨@List.flatMap_cons.{0, 0}, @List.flatMap_nil.{0, 0}⟩⟩⟩⟩⟩
end Go.Ab

set_option linter.unusedVariables false
set_option linter.constructorNameAsVariable false
set_option linter.unusedSimpArgs false
namespace Go.Ab
open Go Go.RowKit

section
variable {p : Prop} [Decidable p] {b : Bool} {y n : ASt → Prop} {s : ASt} {w : Bool}
theorem r_casesD (h1 : p → decide p = true → condS (.c (.bool (decide p))) y n s) (h2 : ¬ p → decide p = false → condS (.c (.bool (decide p))) y n s) : condS (.c (.bool (decide p))) y n s := by
  by_cases h : p
  · exact h1 h (decide_eq_true h)
  · exact h2 h (decide_eq_false h)
theorem r_casesN (h1 : p → decide p = true → condS (.c (.bool (!decide p))) y n s) (h2 : ¬ p → decide p = false → condS (.c (.bool (!decide p))) y n s) : condS (.c (.bool (!decide p))) y n s := by
  by_cases h : p
  · exact h1 h (decide_eq_true h)
  · exact h2 h (decide_eq_false h)
theorem r_casesB (h1 : b = true → b = true → condS (.c (.bool b)) y n s) (h2 : b = false → b = false → condS (.c (.bool b)) y n s) : condS (.c (.bool b)) y n s := by
  cases h : b
  · have := h2 h h; rwa [h] at this
  · have := h1 h h; rwa [h] at this
theorem r_casesM (h1 : b = true → b = true → condS (.c (.bool (!b))) y n s) (h2 : b = false → b = false → condS (.c (.bool (!b))) y n s) : condS (.c (.bool (!b))) y n s := by
  cases h : b
  · have := h2 h h; rwa [h] at this
  · have := h1 h h; rwa [h] at this
theorem r_gcasesD (h1 : p → decide p = true → gB (.c (.bool (decide p))) w y n s) (h2 : ¬ p → decide p = false → gB (.c (.bool (decide p))) w y n s) : gB (.c (.bool (decide p))) w y n s := by
  by_cases h : p
  · exact h1 h (decide_eq_true h)
  · exact h2 h (decide_eq_false h)
theorem r_gcasesN (h1 : p → decide p = true → gB (.c (.bool (!decide p))) w y n s) (h2 : ¬ p → decide p = false → gB (.c (.bool (!decide p))) w y n s) : gB (.c (.bool (!decide p))) w y n s := by
  by_cases h : p
  · exact h1 h (decide_eq_true h)
  · exact h2 h (decide_eq_false h)
theorem r_gcasesB (h1 : b = true → b = true → gB (.c (.bool b)) w y n s) (h2 : b = false → b = false → gB (.c (.bool b)) w y n s) : gB (.c (.bool b)) w y n s := by
  cases h : b
  · have := h2 h h; rwa [h] at this
  · have := h1 h h; rwa [h] at this
theorem r_gcasesM (h1 : b = true → b = true → gB (.c (.bool (!b))) w y n s) (h2 : b = false → b = false → gB (.c (.bool (!b))) w y n s) : gB (.c (.bool (!b))) w y n s := by
  cases h : b
  · have := h2 h h; rwa [h] at this
  · have := h1 h h; rwa [h] at this
end
/-- Slots that stay, and those that change. -/
def keepS (sl : Slots) : List Nat → Slots
  | [] => []
  | t :: r => (t, Slots.get sl t) :: keepS sl r
def laidS (base : Slots) : Slots → Slots
  | [] => base
  | (t, a) :: r => insert (laidS base r) t a
/-- A loop: the slots keep stay as they are, ch are as told; memory is as told. -/
theorem loop_ruleM {P : Program} {tab : Tab} (hT : TabOk P tab) (keep : List Nat) {c : Code} {K : Exit → ASt → Prop} {s : ASt} {α : Type} (ch : α → Slots) (mem : α → Mem) (G : α → Prop) (μ : α → Nat) (x0 : α) (h0 : G x0) (hk : ∀ y, (mem y).k = s.m.k)
    (hs : Fits s ⟨laidS (keepS s.sl keep) (ch x0), mem x0, s.N⟩)
    (round : ∀ y, G y → aw P tab c (thenK (fun s' => ∃ y', G y' ∧ μ y' < μ y ∧ Fits s' ⟨laidS (keepS s.sl keep) (ch y'), mem y', s.N⟩) K) ⟨laidS (keepS s.sl keep) (ch y), mem y, s.N⟩) : ACode P (.loop c) K s :=
  loop_rule hT (fun y => ⟨laidS (keepS s.sl keep) (ch y), mem y, s.N⟩) G μ x0 h0 hs hk round
/-- The same, where more blocks may have come. -/
theorem loop_ruleG {P : Program} {tab : Tab} (hT : TabOk P tab) (keep : List Nat) {c : Code} {K : Exit → ASt → Prop} {s : ASt} {α : Type} (ch : α → Slots) (mem : α → Mem) (G : α → Prop) (μ : α → Nat) (x0 : α) (h0 : G x0) (hk : ∀ y, s.m.k ≤ (mem y).k)
    (hs : Fits s ⟨laidS (keepS s.sl keep) (ch x0), mem x0, s.N⟩)
    (round : ∀ y, G y → aw P tab c (thenK (fun s' => ∃ y', G y' ∧ μ y' < μ y ∧ Fits s' ⟨laidS (keepS s.sl keep) (ch y'), mem y', s.N⟩) K) ⟨laidS (keepS s.sl keep) (ch y), mem y, s.N⟩) : ACode P (.loop c) K s :=
  loop_rule' hT (fun y => ⟨laidS (keepS s.sl keep) (ch y), mem y, s.N⟩) G μ x0 h0 hs hk round
theorem loop_ruleC {P : Program} {tab : Tab} (hT : TabOk P tab) (keep : List Nat) {c : Code} {K : Exit → ASt → Prop} {s : ASt} {α : Type} (ch : α → Slots) (G : α → Prop) (μ : α → Nat) (x0 : α) (h0 : G x0)
    (hs : Fits s ⟨laidS (keepS s.sl keep) (ch x0), s.m, s.N⟩)
    (round : ∀ y, G y → aw P tab c (thenK (fun s' => ∃ y', G y' ∧ μ y' < μ y ∧ Fits s' ⟨laidS (keepS s.sl keep) (ch y'), s.m, s.N⟩) K) ⟨laidS (keepS s.sl keep) (ch y), s.m, s.N⟩) : ACode P (.loop c) K s :=
  loop_rule hT (fun y => ⟨laidS (keepS s.sl keep) (ch y), s.m, s.N⟩) G μ x0 h0 hs (fun _ => rfl) round
/-- Rows of anything. -/
theorem elem_map {α : Type} {enc : α → AV} (d : α) {l : List α} {i : Nat} {K : AV → Prop} : Elem (l.map enc) i K = (i < l.length ∧ K (enc (l.getD i d))) := by
  simp only [Elem, List.length_map, List.getElem_map, eq_iff_iff]
  constructor
  · rintro ⟨h, k⟩
    refine ⟨h, ?_⟩
    rw [List.getD_eq_getElem?_getD, List.getElem?_eq_getElem h]; exact k
  · rintro ⟨h, k⟩
    refine ⟨h, ?_⟩
    rw [List.getD_eq_getElem?_getD, List.getElem?_eq_getElem h] at k; exact k
theorem underL_map {α : Type} {enc : α → AV} (k : Nat) (h : ∀ a, ∀ x ∈ (enc a).cells, Under k x) (l : List α) : UnderL k (l.map enc) := by
  induction l with
  | nil => rw [List.map_nil, underL_nil]; trivial
  | cons a l ih => rw [List.map_cons, underL_cons]; exact ⟨h a, ih⟩
/-- What a call that is known gives up: tests of what is behind it. -/
theorem int_wrap {n : Int} (h : -9223372036854775808 ≤ n) (h2 : n < 9223372036854775808) : IntKind.i64.wrap n = n := wrap_i64 h h2
/-- Truth handed back. -/
theorem exp_bF {M : Mem} {p : Prop} [Decidable p] (h : ¬ p) : Exp M (.c (.bool false)) (.c (.bool (decide p))) := exp_b (decide_eq_false h).symm
theorem exp_bT {M : Mem} {p : Prop} [Decidable p] (h : p) : Exp M (.c (.bool true)) (.c (.bool (decide p))) := exp_b (decide_eq_true h).symm
theorem exp_bE {M : Mem} {p q : Prop} [Decidable p] [Decidable q] (h : q ↔ p) : Exp M (.c (.bool (decide q))) (.c (.bool (decide p))) := exp_b (decide_eq_decide.2 h)
theorem exp_i {M : Mem} {k : IntKind} {a b : Int} (h : a = b) : Exp M (.c (.int k a)) (.c (.int k b)) := h ▸ exp_c
end Go.Ab
